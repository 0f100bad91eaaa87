/- Valid symbols at odd primes, for any symbol: the program's and the reference's. (With LT.skipU.) -/
import Derived.Test.YtdieokoenhncfaaGreatDoorMem
import Derived.Test.YtdieokoenhncfaaGreatDoorTs
import Derived.Test.YtdieokoenhncfaaGreatDoorSc
set_option maxRecDepth 3000
namespace Go.Proofs.YtdieokoenhncfaaGreatDoor
open Go.RowKit Limb Num
def zU (f : Nat → Co) : Nat → Prop
 | 0 => True
 | i + 1 => zU f i ∧ (f i).o = false ∧ (f i).y = 0
instance zU_dec (f : Nat → Co) : ∀ n, Decidable (zU f n)
 | 0 => .isTrue trivial
 | n + 1 => by unfold zU; have := zU_dec f n; infer_instance
theorem zU_le {f : Nat → Co} : ∀ {n i : Nat}, i ≤ n → zU f n → zU f i
 | 0, i, h, hs => by rw [show i = 0 by omega]; exact hs
 | n + 1, i, h, hs => by
  by_cases e : i = n + 1
  ·rw [e]; exact hs
  ·exact zU_le (by omega) hs.1
def oddP (p : Int) (f : Nat → Co) (n : Nat) : Prop := smP p = true ∧ p ≠ 2 ∧ ordP f n ∧ zU f n
instance (p : Int) (f : Nat → Co) (n : Nat) : Decidable (oddP p f n) := by unfold oddP; infer_instance
section
variable (En : Ev)
theorem roddG (p : Int) : Fn Tryz.prog En 107 [ex (.int .i64 p)] (ex (.bool (decide (smP p = true ∧ p ≠ 2)))) := by
 have C1 := rsmall En p
 by_cases h2 : p = 2
 ·rw [decide_eq_false (fun h => h.2 h2)]
  refine aZb Tryz.func107 rfl Tryz.ntmps107 rfl ?_
  intro w0 h0
  refine js (jr (ja jj (jn (js (jr (jm jj (jS (bNf jj jj) (jm jj (jk (jk (jQ jj jj (ja jj (jn (ji ?_))))))))))))))
  exact rtT rfl jj
 ·cases hp : smP p with
  | true =>
   rw [hp] at C1
   rw [decide_eq_true ⟨rfl, h2⟩]
   refine aZb Tryz.func107 rfl Tryz.ntmps107 rfl ?_
   intro w0 h0
   refine js (jr (ja jj (jn (js (jr (jm jj (jS (bNt jj jj) (jm jj (jgm jj (jg (aZa C1 ⟨jj, trivial⟩) (jq jj jj (ja jj (jn (ji ?_))))))))))))))
   exact rtT rfl jj
  | false =>
   rw [hp] at C1
   rw [decide_eq_false (fun h => Bool.noConfusion h.1)]
   refine aZb Tryz.func107 rfl Tryz.ntmps107 rfl ?_
   intro w0 h0
   refine js (jr (ja jj (jn (js (jr (jm jj (jS (bNt jj jj) (jm jj (jgm jj (jg (aZa C1 ⟨jj, trivial⟩) (jq jj jj (ja jj (jn (ji ?_))))))))))))))
   exact rtT rfl jj
set_option maxHeartbeats 1000000 in
theorem rvalidG (p : Int) (f : Nat → Co) (n : Nat) (hn : n ≤ 1000) : Fn Tryz.prog En 60 [locP p f n] (ex (.bool (decide (oddP p f n)))) := by
 have C1 := roddG En p
 have C2 := gZ5 En f n hn
 have key : ∀ i, i < n → ¬ zU f (i + 1) → ¬ oddP p f n := fun i hi h h' => h (zU_le (by omega) h'.2.2.2)
 unfold locP
 by_cases hp : smP p = true ∧ p ≠ 2
 ·rw [decide_eq_true hp] at C1
  by_cases ho : ordP f n
  ·rw [decide_eq_true ho] at C2
   refine aZb Tryz.func60 rfl Tryz.ntmps60 rfl ?_
   intro w0 h0
   refine js (jr (jB jj jj jj (ja jj (jn (js (js (jr (jF jj jj (jl jj jj jj (jS (aZa C1 ⟨jj, trivial⟩) (jS (bNo jj) (jm jj ?_))))))))))))
   first | refine jgf jj jj ?_ | refine jk ?_ | refine ju ?_
   first | refine jgl jj jj jj ?_ | refine jk ?_ | refine ju ?_
   first | refine jg (aZa C2 ⟨jj, trivial⟩) ?_ | refine jk ?_ | refine ju ?_
   first | refine jg (bNo jj) ?_ | refine jk ?_ | refine ju ?_
   first | refine jq jj jj ?_ | refine jQ jj jj ?_
   refine jn (jf jj (jp (js (js (jr (jF jj jj (jl jj jj jj (jE jj (jm jj (jn (jb ?_)))))))))))
   refine WpD.loop (α := {i : Nat // i ≤ n ∧ zU f i}) (fun i => ⟨[(16, .one (slc 5 (rows (ccs f) n) n)), (17, .one (ex (.int .i64 (n : Int)))), (18, .one (ex (.int .i64 (i.1 : Int))))], []⟩) (fun i => n - i.1) ⟨0, Nat.zero_le _, trivial⟩ ?_ ?_
   ·refine Sub.mk ?_ ?_ <;> repeat (first | exact trivial | refine jV jj ?_ | refine jy jj ?_ | refine jw jj (js0 jj) ?_)
   rintro ⟨i, hi, hz⟩
   dsimp only at hi hz ⊢
   by_cases hlt : i < n
   ·have hq : ((rows (ccs f) n).drop (i * 5)).take 5 = [ex (.int .i64 (f i).e), ex (.int .i64 (f i).d), ex (.int .i64 (f i).s), ex (.bool (f i).o), ex (.int .i64 (f i).y)] := aZo (aZp f) hlt
    have w1 := wS i (by omega)
    cases hoi : (f i).o with
    | true =>
     rw [hoi] at hq
     rw [decide_eq_false (key i hlt fun h => by have := h.2.1; rw [hoi] at this; cases this)]
     refine js (jr (jS (bLt jj jj) (jn (js (jt jj (jp (js (jb (js (jr (jS (aZc jj jj hlt hq) (jS (aZg jj jj jj) (jA jj jj jj (jP jj jj jj jj (jn (js (jr (jF jj jj (jl jj jj jj (jm jj (jk (jk (jk (jq jj jj (jn (jt jj (js (jr (ja jj (jn (ji ?_)))))))))))))))))))))))))))))))
     exact rtT rfl jj
    | false =>
     rw [hoi] at hq
     by_cases hyi : (f i).y = 0
     ·refine js (jr (jS (bLt jj jj) (jn (js (jt jj (jp (js (jb (js (jr (jS (aZc jj jj hlt hq) (jS (aZg jj jj jj) (jA jj jj jj (jP jj jj jj jj (jn (js (jr (jF jj jj (jl jj jj jj (jm jj (jgf jj jj (jgl jj jj jj (jg (bNf jj jj) (jQ jj jj (jn (jf jj (jp (jr (jS (bAd jj jj w1) (jm jj (jn ?_)))))))))))))))))))))))))))))))
      refine ⟨⟨i + 1, by omega, hz, hoi, hyi⟩, ?_, by dsimp only; omega⟩
      refine Sub.mk ?_ ?_ <;> repeat (first | exact trivial | refine jV jj ?_ | refine jy jj ?_ | refine jw jj (js0 jj) ?_)
     ·rw [decide_eq_false (key i hlt fun h => hyi h.2.2)]
      refine js (jr (jS (bLt jj jj) (jn (js (jt jj (jp (js (jb (js (jr (jS (aZc jj jj hlt hq) (jS (aZg jj jj jj) (jA jj jj jj (jP jj jj jj jj (jn (js (jr (jF jj jj (jl jj jj jj (jm jj (jgf jj jj (jgl jj jj jj (jg (bNt jj jj) (jQ jj jj (jn (jt jj (js (jr (ja jj (jn (ji ?_)))))))))))))))))))))))))))))))
      exact rtT rfl jj
   ·have hin : i = n := by omega
    subst hin
    rw [decide_eq_true (show oddP p f i from ⟨hp.1, hp.2, ho, hz⟩)]
    refine js (jr (jS (bLf jj jj) (jn (js (jf jj (je (js (jr (ja jj (jn (ji ?_)))))))))))
    exact rtT rfl jj
  ·rw [decide_eq_false ho] at C2
   rw [decide_eq_false (fun h : oddP p f n => ho h.2.2.1)]
   refine aZb Tryz.func60 rfl Tryz.ntmps60 rfl ?_
   intro w0 h0
   refine js (jr (jB jj jj jj (ja jj (jn (js (js (jr (jF jj jj (jl jj jj jj (jS (aZa C1 ⟨jj, trivial⟩) (jS (bNo jj) (jm jj ?_))))))))))))
   first | refine jgf jj jj ?_ | refine jk ?_ | refine ju ?_
   first | refine jgl jj jj jj ?_ | refine jk ?_ | refine ju ?_
   first | refine jg (aZa C2 ⟨jj, trivial⟩) ?_ | refine jk ?_ | refine ju ?_
   first | refine jg (bNo jj) ?_ | refine jk ?_ | refine ju ?_
   first | refine jq jj jj ?_ | refine jQ jj jj ?_
   refine jn (jt jj (js (jr (ja jj (jn (ji ?_))))))
   exact rtT rfl jj
 ·rw [decide_eq_false hp] at C1
  rw [decide_eq_false (fun h : oddP p f n => hp ⟨h.1, h.2.1⟩)]
  refine aZb Tryz.func60 rfl Tryz.ntmps60 rfl ?_
  intro w0 h0
  repeat (first | apply js | apply jb)
  refine jr (jB jj jj jj (ja jj (jn ?_)))
  repeat (first | apply js | apply jb)
  refine jr (jF jj jj (jl jj jj jj (jS (aZa C1 ⟨jj, trivial⟩) (jS (bNo jj) (jm jj ?_)))))
  first | refine jgf jj jj ?_ | refine jk ?_ | refine ju ?_
  first | refine jgl jj jj jj ?_ | refine jk ?_ | refine ju ?_
  first | refine jg (aZa C2 ⟨jj, trivial⟩) ?_ | refine jk ?_ | refine ju ?_
  first | refine jg (bNo jj) ?_ | refine jk ?_ | refine ju ?_
  first | refine jq jj jj ?_ | refine jQ jj jj ?_
  refine jn ?_
  repeat (first | apply js | apply jb)
  refine WpD.condT rfl ?_
  repeat (first | apply js | apply jb)
  refine jr (ja jj (jn ?_))
  repeat (first | apply js | apply jb)
  refine WpD.ret ?_
  exact rtT rfl jj
end
set_option maxHeartbeats 4000000 in
theorem svalidG (p : Int) (f : Nat → Co) (n : Nat) (hn : n ≤ 1000) : Fn Tryz.prog TabD 54 [locP p f n] (ex (.bool (decide (oddP p f n)))) := by
 have C1 := (fis p).tab
 have key1 : ∀ i, i < n → oddP p f n → ¬ ¬ shU f (i + 1) := fun i hi h h' => h' (fZM (by omega) h.2.2.1.2.1)
 have key2 : ∀ i, i < n → oddP p f n → ¬ ¬ sgU f (i + 1) := fun i hi h h' => h' (iZZ (by omega) h.2.2.1.2.2)
 have key3 : ∀ i, i < n → oddP p f n → ¬ ¬ zU f (i + 1) := fun i hi h h' => h' (zU_le (by omega) h.2.2.2)
 unfold locP
 by_cases p1 : p ≤ 2
 ·rw [decide_eq_false (fun h : oddP p f n => by have := iZW h.1; exact h.2.1 (by omega))]
  refine aZb Tryz.func54 rfl Tryz.ntmps54 rfl ?_
  intro w0 h0
  refine js (jr (jB jj jj jj (ja jj (jn (js (js (jr (jF jj jj (jl jj jj jj (jS (bMt jj jj) (jm jj (jk (jk (jk (jq jj jj (jm jj (jk (jk (jk (jk (jq jj jj (jm jj (jk (jk (jk (jk (jq jj jj (jn (jt jj (js (jr (ja jj (jn (ji ?_))))))))))))))))))))))))))))))))))
  exact rtT rfl jj
 by_cases p2 : p > 9973
 ·rw [decide_eq_false (fun h : oddP p f n => by have := iZW h.1; omega)]
  refine aZb Tryz.func54 rfl Tryz.ntmps54 rfl ?_
  intro w0 h0
  refine js (jr (jB jj jj jj (ja jj (jn (js (js (jr (jF jj jj (jl jj jj jj (jS (bMf jj jj) (jm jj (jgf jj jj (jgl jj jj jj (jg (bGt jj jj) (jQ jj jj (jm jj (jk (jk (jk (jk (jq jj jj (jm jj (jk (jk (jk (jk (jq jj jj (jn (jt jj (js (jr (ja jj (jn (ji ?_))))))))))))))))))))))))))))))))))
  exact rtT rfl jj
 have hsm : smP p = isP p.toNat := by unfold smP; rw [decide_eq_true (by omega), Bool.true_and]
 cases hip : isP p.toNat with
 | false =>
  rw [hip] at C1 hsm
  rw [decide_eq_false (fun h : oddP p f n => by have := h.1; rw [hsm] at this; cases this)]
  refine aZb Tryz.func54 rfl Tryz.ntmps54 rfl ?_
  intro w0 h0
  refine js (jr (jB jj jj jj (ja jj (jn (js (js (jr (jF jj jj (jl jj jj jj (jS (bMf jj jj) (jm jj (jgf jj jj (jgl jj jj jj (jg (bGf jj jj) (jQ jj jj (jm jj (jgf jj jj (jgl jj jj jj (jg (aZa C1 ⟨jj, trivial⟩) (jg (bNo jj) (jQ jj jj (jm jj (jk (jk (jk (jk (jq jj jj (jn (jt jj (js (jr (ja jj (jn (ji ?_))))))))))))))))))))))))))))))))))
  exact rtT rfl jj
 | true =>
  rw [hip] at C1 hsm
  by_cases hn0 : n = 0
  ·rw [decide_eq_false (fun h : oddP p f n => h.2.2.1.1 hn0)]
   have hn' : ((n : Nat) : Int) = 0 := by omega
   refine aZb Tryz.func54 rfl Tryz.ntmps54 rfl ?_
   intro w0 h0
   refine js (jr (jB jj jj jj (ja jj (jn (js (js (jr (jF jj jj (jl jj jj jj (jS (bMf jj jj) (jm jj (jgf jj jj (jgl jj jj jj (jg (bGf jj jj) (jQ jj jj (jm jj (jgf jj jj (jgl jj jj jj (jg (aZa C1 ⟨jj, trivial⟩) (jg (bNo jj) (jQ jj jj (jm jj (jgf jj jj (jgl jj jj jj (jg (bZd jj CSlice.ok) (jg (bEt jj jj) (jQ jj jj (jn (jt jj (js (jr (ja jj (jn (ji ?_))))))))))))))))))))))))))))))))))
   exact rtT rfl jj
  have hn' : ((n : Nat) : Int) ≠ 0 := by omega
  refine aZb Tryz.func54 rfl Tryz.ntmps54 rfl ?_
  intro w0 h0
  refine js (jr (jB jj jj jj (ja jj (jn (js (js (jr (jF jj jj (jl jj jj jj (jS (bMf jj jj) (jm jj (jgf jj jj (jgl jj jj jj (jg (bGf jj jj) (jQ jj jj (jm jj (jgf jj jj (jgl jj jj jj (jg (aZa C1 ⟨jj, trivial⟩) (jg (bNo jj) (jQ jj jj (jm jj (jgf jj jj (jgl jj jj jj (jg (bZd jj CSlice.ok) (jg (bEf jj jj) (jQ jj jj (jn (jf jj (jp (js (jr (ja jj (ja jj (jn (js (js (jr (jF jj jj (jl jj jj jj (jE jj (jm jj (jn ?_)))))))))))))))))))))))))))))))))))))))))))
  refine jb ?_
  refine WpD.loop (α := {i : Nat // i ≤ n ∧ shU f i ∧ sgU f i ∧ zU f i}) (fun i => ⟨[(3, .one (ex (.int .i64 (dsm2 f i.1)))), (4, .one (ex (.int .i64 (bZS f i.1)))), (28, .one (slc 5 (rows (ccs f) n) n)), (29, .one (ex (.int .i64 (n : Int)))), (30, .one (ex (.int .i64 (i.1 : Int))))], []⟩) (fun i => n - i.1) ⟨0, Nat.zero_le _, trivial, trivial, trivial⟩ ?_ ?_
  ·refine Sub.mk ?_ ?_ <;> repeat (first | exact trivial | refine jV jj ?_ | refine jy jj ?_ | refine jw jj (js0 jj) ?_)
  rintro ⟨i, hi, hs, hg, hz⟩
  dsimp only at hi hs hg hz ⊢
  obtain ⟨s1, s2, s3, s4⟩ := eZC hs
  by_cases hlt : i < n
  ·have hq : ((rows (ccs f) n).drop (i * 5)).take 5 = [ex (.int .i64 (f i).e), ex (.int .i64 (f i).d), ex (.int .i64 (f i).s), ex (.bool (f i).o), ex (.int .i64 (f i).y)] := aZo (aZp f) hlt
   have w1 := wS i (by omega)
   have w2 : IntKind.i64.wrap (8 - dsm2 f i) = 8 - dsm2 f i := w64 (by omega) (by omega)
   by_cases c1 : (f i).e ≤ bZS f i
   ·rw [decide_eq_false (fun h : oddP p f n => key1 i hlt h fun h => by have := h.2.1; omega)]
    refine js (jr (jS (bLt jj jj) (jn (js (jt jj (jp (js (jb (js (jr (jS (aZc jj jj hlt hq) (jS (aZg jj jj jj) (jA jj jj jj (jP jj jj jj jj (jn (js (js (jr (jF jj jj (jl jj jj jj (jm jj (jS (bMt jj jj) (jm jj (jk (jk (jk (jq jj jj (jm jj (jk (jk (jk (jq jj jj (jm jj (jk (jk (jk (jk (jk (jq jj jj (jn ?_))))))))))))))))))))))))))))))))))))))))
    refine jt jj (js (jr (ja jj (jn (ji ?_)))))
    exact rtT rfl jj
   by_cases c2 : (f i).e > 60
   ·rw [decide_eq_false (fun h : oddP p f n => key1 i hlt h fun h => by have := h.2.2.1; omega)]
    refine js (jr (jS (bLt jj jj) (jn (js (jt jj (jp (js (jb (js (jr (jS (aZc jj jj hlt hq) (jS (aZg jj jj jj) (jA jj jj jj (jP jj jj jj jj (jn (js (js (jr (jF jj jj (jl jj jj jj (jm jj (jS (bMf jj jj) (jm jj (jgf jj jj (jgl jj jj jj (jg (bGt jj jj) (jQ jj jj (jm jj (jk (jk (jk (jq jj jj (jm jj (jk (jk (jk (jk (jk (jq jj jj (jn ?_))))))))))))))))))))))))))))))))))))))))
    refine jt jj (js (jr (ja jj (jn (ji ?_)))))
    exact rtT rfl jj
   by_cases c3 : (f i).d < 1
   ·rw [decide_eq_false (fun h : oddP p f n => key1 i hlt h fun h => by have := h.2.2.2.1; omega)]
    refine js (jr (jS (bLt jj jj) (jn (js (jt jj (jp (js (jb (js (jr (jS (aZc jj jj hlt hq) (jS (aZg jj jj jj) (jA jj jj jj (jP jj jj jj jj (jn (js (js (jr (jF jj jj (jl jj jj jj (jm jj (jS (bMf jj jj) (jm jj (jgf jj jj (jgl jj jj jj (jg (bGf jj jj) (jQ jj jj (jm jj (jgf jj jj (jgl jj jj jj (jg (bLt jj jj) (jQ jj jj (jm jj (jk (jk (jk (jk (jk (jq jj jj (jn ?_))))))))))))))))))))))))))))))))))))))))
    refine jt jj (js (jr (ja jj (jn (ji ?_)))))
    exact rtT rfl jj
   by_cases c4 : (f i).d > 8 - dsm2 f i
   ·rw [decide_eq_false (fun h : oddP p f n => key1 i hlt h fun h => by have := h.2.2.2.2; omega)]
    refine js (jr (jS (bLt jj jj) (jn (js (jt jj (jp (js (jb (js (jr (jS (aZc jj jj hlt hq) (jS (aZg jj jj jj) (jA jj jj jj (jP jj jj jj jj (jn (js (js (jr (jF jj jj (jl jj jj jj (jm jj (jS (bMf jj jj) (jm jj (jgf jj jj (jgl jj jj jj (jg (bGf jj jj) (jQ jj jj (jm jj (jgf jj jj (jgl jj jj jj (jg (bLf jj jj) (jQ jj jj (jm jj (jgf jj jj (jgl jj jj jj (jgm jj (jg (bSu jj jj w2) (jg (bGt jj jj) (jQ jj jj (jn ?_))))))))))))))))))))))))))))))))))))))))
    refine jt jj (js (jr (ja jj (jn (ji ?_)))))
    exact rtT rfl jj
   have w3 : IntKind.i64.wrap (dsm2 f i + (f i).d) = dsm2 f (i + 1) := w64 (by omega) (by omega)
   by_cases g0 : (f i).s = 1
   ·have c5 : (f i).s = 1 ∨ (f i).s = -1 := .inl g0
    cases hoi : (f i).o with
    | true =>
     rw [hoi] at hq
     rw [decide_eq_false (fun h : oddP p f n => key3 i hlt h fun h => by have := h.2.1; rw [hoi] at this; cases this)]
     refine js (jr (jS (bLt jj jj) (jn (js (jt jj (jp (js (jb (js (jr (jS (aZc jj jj hlt hq) (jS (aZg jj jj jj) (jA jj jj jj (jP jj jj jj jj (jn (js (js (jr (jF jj jj (jl jj jj jj (jm jj (jS (bMf jj jj) (jm jj (jgf jj jj (jgl jj jj jj (jg (bGf jj jj) (jQ jj jj (jm jj (jgf jj jj (jgl jj jj jj (jg (bLf jj jj) (jQ jj jj (jm jj (jgf jj jj (jgl jj jj jj (jgm jj (jg (bSu jj jj w2) (jg (bGf jj jj) (jQ jj jj (jn ?_))))))))))))))))))))))))))))))))))))))))
     refine jf jj (jp (js (js (jr (jF jj jj (jl jj jj jj (jS (bNf jj jj) (jm jj (jk (jk (jk (jQ jj jj (jm jj (jgf jj jj (jgl jj jj jj (jQ jj jj (jm jj (jk (jk (jk (jq jj jj (jn (jt jj (js (jr (ja jj (jn (ji ?_))))))))))))))))))))))))))))
     exact rtT rfl jj
    | false =>
     rw [hoi] at hq
     by_cases hyi : (f i).y = 0
     ·refine js (jr (jS (bLt jj jj) (jn (js (jt jj (jp (js (jb (js (jr (jS (aZc jj jj hlt hq) (jS (aZg jj jj jj) (jA jj jj jj (jP jj jj jj jj (jn (js (js (jr (jF jj jj (jl jj jj jj (jm jj (jS (bMf jj jj) (jm jj (jgf jj jj (jgl jj jj jj (jg (bGf jj jj) (jQ jj jj (jm jj (jgf jj jj (jgl jj jj jj (jg (bLf jj jj) (jQ jj jj (jm jj (jgf jj jj (jgl jj jj jj (jgm jj (jg (bSu jj jj w2) (jg (bGf jj jj) (jQ jj jj (jn ?_))))))))))))))))))))))))))))))))))))))))
      refine jf jj (jp (js (js (jr (jF jj jj (jl jj jj jj (jS (bNf jj jj) (jm jj (jk (jk (jk (jQ jj jj (jm jj (jgf jj jj (jgl jj jj jj (jQ jj jj (jm jj (jgf jj jj (jgl jj jj jj (jg (bNf jj jj) (jQ jj jj (jn (jf jj (jp (js (jr (jm jj (jF jj jj (jl jj jj jj (jS (bAd jj jj w3) (ja jj (jn (jr (jF jj jj (jl jj jj jj (ja jj (jn (jr (jS (bAd jj jj w1) (jm jj (jn ?_)))))))))))))))))))))))))))))))))))))))))
      refine ⟨⟨i + 1, by omega, ⟨hs, by omega, by omega, by omega, by omega⟩, ⟨hg, c5⟩, hz, hoi, hyi⟩, ?_, by dsimp only; omega⟩
      dsimp only
      rw [dZ1]
      refine Sub.mk ?_ ?_ <;> repeat (first | exact trivial | refine jV jj ?_ | refine jy jj ?_ | refine jw jj (js0 jj) ?_)
     ·rw [decide_eq_false (fun h : oddP p f n => key3 i hlt h fun h => hyi h.2.2)]
      refine js (jr (jS (bLt jj jj) (jn (js (jt jj (jp (js (jb (js (jr (jS (aZc jj jj hlt hq) (jS (aZg jj jj jj) (jA jj jj jj (jP jj jj jj jj (jn (js (js (jr (jF jj jj (jl jj jj jj (jm jj (jS (bMf jj jj) (jm jj (jgf jj jj (jgl jj jj jj (jg (bGf jj jj) (jQ jj jj (jm jj (jgf jj jj (jgl jj jj jj (jg (bLf jj jj) (jQ jj jj (jm jj (jgf jj jj (jgl jj jj jj (jgm jj (jg (bSu jj jj w2) (jg (bGf jj jj) (jQ jj jj (jn ?_))))))))))))))))))))))))))))))))))))))))
      refine jf jj (jp (js (js (jr (jF jj jj (jl jj jj jj (jS (bNf jj jj) (jm jj (jk (jk (jk (jQ jj jj (jm jj (jgf jj jj (jgl jj jj jj (jQ jj jj (jm jj (jgf jj jj (jgl jj jj jj (jg (bNt jj jj) (jQ jj jj (jn (jt jj (js (jr (ja jj (jn (ji ?_))))))))))))))))))))))))))))
      exact rtT rfl jj
   by_cases g1 : (f i).s = -1
   ·have c5 : (f i).s = 1 ∨ (f i).s = -1 := .inr g1
    cases hoi : (f i).o with
    | true =>
     rw [hoi] at hq
     rw [decide_eq_false (fun h : oddP p f n => key3 i hlt h fun h => by have := h.2.1; rw [hoi] at this; cases this)]
     refine js (jr (jS (bLt jj jj) (jn (js (jt jj (jp (js (jb (js (jr (jS (aZc jj jj hlt hq) (jS (aZg jj jj jj) (jA jj jj jj (jP jj jj jj jj (jn (js (js (jr (jF jj jj (jl jj jj jj (jm jj (jS (bMf jj jj) (jm jj (jgf jj jj (jgl jj jj jj (jg (bGf jj jj) (jQ jj jj (jm jj (jgf jj jj (jgl jj jj jj (jg (bLf jj jj) (jQ jj jj (jm jj (jgf jj jj (jgl jj jj jj (jgm jj (jg (bSu jj jj w2) (jg (bGf jj jj) (jQ jj jj (jn ?_))))))))))))))))))))))))))))))))))))))))
     refine jf jj (jp (js (js (jr (jF jj jj (jl jj jj jj (jS (bNt jj jj) (jm jj (jgf jj jj (jgl jj jj jj (jg (bNf jj jj) (jq jj jj (jm jj (jgf jj jj (jgl jj jj jj (jQ jj jj (jm jj (jk (jk (jk (jq jj jj (jn (jt jj (js (jr (ja jj (jn (ji ?_))))))))))))))))))))))))))))
     exact rtT rfl jj
    | false =>
     rw [hoi] at hq
     by_cases hyi : (f i).y = 0
     ·refine js (jr (jS (bLt jj jj) (jn (js (jt jj (jp (js (jb (js (jr (jS (aZc jj jj hlt hq) (jS (aZg jj jj jj) (jA jj jj jj (jP jj jj jj jj (jn (js (js (jr (jF jj jj (jl jj jj jj (jm jj (jS (bMf jj jj) (jm jj (jgf jj jj (jgl jj jj jj (jg (bGf jj jj) (jQ jj jj (jm jj (jgf jj jj (jgl jj jj jj (jg (bLf jj jj) (jQ jj jj (jm jj (jgf jj jj (jgl jj jj jj (jgm jj (jg (bSu jj jj w2) (jg (bGf jj jj) (jQ jj jj (jn ?_))))))))))))))))))))))))))))))))))))))))
      refine jf jj (jp (js (js (jr (jF jj jj (jl jj jj jj (jS (bNt jj jj) (jm jj (jgf jj jj (jgl jj jj jj (jg (bNf jj jj) (jq jj jj (jm jj (jgf jj jj (jgl jj jj jj (jQ jj jj (jm jj (jgf jj jj (jgl jj jj jj (jg (bNf jj jj) (jQ jj jj (jn (jf jj (jp (js (jr (jm jj (jF jj jj (jl jj jj jj (jS (bAd jj jj w3) (ja jj (jn (jr (jF jj jj (jl jj jj jj (ja jj (jn (jr (jS (bAd jj jj w1) (jm jj (jn ?_)))))))))))))))))))))))))))))))))))))))))
      refine ⟨⟨i + 1, by omega, ⟨hs, by omega, by omega, by omega, by omega⟩, ⟨hg, c5⟩, hz, hoi, hyi⟩, ?_, by dsimp only; omega⟩
      dsimp only
      rw [dZ1]
      refine Sub.mk ?_ ?_ <;> repeat (first | exact trivial | refine jV jj ?_ | refine jy jj ?_ | refine jw jj (js0 jj) ?_)
     ·rw [decide_eq_false (fun h : oddP p f n => key3 i hlt h fun h => hyi h.2.2)]
      refine js (jr (jS (bLt jj jj) (jn (js (jt jj (jp (js (jb (js (jr (jS (aZc jj jj hlt hq) (jS (aZg jj jj jj) (jA jj jj jj (jP jj jj jj jj (jn (js (js (jr (jF jj jj (jl jj jj jj (jm jj (jS (bMf jj jj) (jm jj (jgf jj jj (jgl jj jj jj (jg (bGf jj jj) (jQ jj jj (jm jj (jgf jj jj (jgl jj jj jj (jg (bLf jj jj) (jQ jj jj (jm jj (jgf jj jj (jgl jj jj jj (jgm jj (jg (bSu jj jj w2) (jg (bGf jj jj) (jQ jj jj (jn ?_))))))))))))))))))))))))))))))))))))))))
      refine jf jj (jp (js (js (jr (jF jj jj (jl jj jj jj (jS (bNt jj jj) (jm jj (jgf jj jj (jgl jj jj jj (jg (bNf jj jj) (jq jj jj (jm jj (jgf jj jj (jgl jj jj jj (jQ jj jj (jm jj (jgf jj jj (jgl jj jj jj (jg (bNt jj jj) (jQ jj jj (jn (jt jj (js (jr (ja jj (jn (ji ?_))))))))))))))))))))))))))))
      exact rtT rfl jj
   rw [decide_eq_false (fun h : oddP p f n => key2 i hlt h fun h => by have := h.2; omega)]
   refine js (jr (jS (bLt jj jj) (jn (js (jt jj (jp (js (jb (js (jr (jS (aZc jj jj hlt hq) (jS (aZg jj jj jj) (jA jj jj jj (jP jj jj jj jj (jn (js (js (jr (jF jj jj (jl jj jj jj (jm jj (jS (bMf jj jj) (jm jj (jgf jj jj (jgl jj jj jj (jg (bGf jj jj) (jQ jj jj (jm jj (jgf jj jj (jgl jj jj jj (jg (bLf jj jj) (jQ jj jj (jm jj (jgf jj jj (jgl jj jj jj (jgm jj (jg (bSu jj jj w2) (jg (bGf jj jj) (jQ jj jj (jn ?_))))))))))))))))))))))))))))))))))))))))
   refine jf jj (jp (js (js (jr (jF jj jj (jl jj jj jj (jS (bNt jj jj) (jm jj (jgf jj jj (jgl jj jj jj (jg (bNt jj jj) (jq jj jj (jm jj (jk (jk (jq jj jj (jm jj (jk (jk (jk (jq jj jj (jn (jt jj (js (jr (ja jj (jn (ji ?_))))))))))))))))))))))))))))
   exact rtT rfl jj
  ·have hin : i = n := by omega
   subst hin
   rw [decide_eq_true (show oddP p f i from ⟨hsm, by omega, ⟨hn0, hs, hg⟩, hz⟩)]
   refine js (jr (jS (bLf jj jj) (jn (js (jf jj (je (js (jr (ja jj (jn (ji ?_)))))))))))
   exact rtT rfl jj
end Go.Proofs.YtdieokoenhncfaaGreatDoor

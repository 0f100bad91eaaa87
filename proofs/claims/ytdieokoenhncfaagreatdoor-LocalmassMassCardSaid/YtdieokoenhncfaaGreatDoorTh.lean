/- Compartments and trains: the program's. (With LT.skipU.) -/
import Derived.Test.YtdieokoenhncfaaGreatDoorMem
import Derived.Test.YtdieokoenhncfaaGreatDoorSc
import Derived.Test.YtdieokoenhncfaaGreatDoorTg
set_option maxRecDepth 3000
namespace Go.Proofs.YtdieokoenhncfaaGreatDoor
open Go.RowKit Limb Num
instance cbody131 : CBody Tryz.prog 131 := ⟨⟨_, Tryz.func131, rfl, by rfl⟩⟩
instance cbody156 : CBody Tryz.prog 156 := ⟨⟨_, Tryz.func156, rfl, by rfl⟩⟩
instance cbody157 : CBody Tryz.prog 157 := ⟨⟨_, Tryz.func157, rfl, by rfl⟩⟩
instance cbody159 : CBody Tryz.prog 159 := ⟨⟨_, Tryz.func159, rfl, by rfl⟩⟩
instance cbody158 : CBody Tryz.prog 158 := ⟨⟨_, Tryz.func158, rfl, by rfl⟩⟩
instance cbody135 : CBody Tryz.prog 135 := ⟨⟨_, Tryz.func135, rfl, by rfl⟩⟩
instance cbody97 : CBody Tryz.prog 97 := ⟨⟨_, Tryz.func97, rfl, by rfl⟩⟩
instance cbody133 : CBody Tryz.prog 133 := ⟨⟨_, Tryz.func133, rfl, by rfl⟩⟩
instance cbody134 : CBody Tryz.prog 134 := ⟨⟨_, Tryz.func134, rfl, by rfl⟩⟩
instance cbody170 : CBody Tryz.prog 170 := ⟨⟨_, Tryz.func170, rfl, by rfl⟩⟩
instance cbody177 : CBody Tryz.prog 177 := ⟨⟨_, Tryz.func177, rfl, by rfl⟩⟩
theorem bZy {l : List Nat} {i : Nat} (h : i < l.length) : ((ixP l).drop (i * 1)).take 1 = [ex (.int .i64 ((l.getD i 0 : Nat) : Int))] := by
 have h' : i < (ixP l).length := by unfold ixP; simpa using h
 rw [Nat.mul_one, List.drop_eq_getElem_cons h']
 simp [ixP, List.getD, List.getElem?_eq_getElem h]
theorem dZo {G : List (List Nat)} {i : Nat} (h : i < G.length) : ((G.map gP).drop (i * 1)).take 1 = [gP (G.getD i [])] := by
 have h' : i < (G.map gP).length := by simpa using h
 rw [Nat.mul_one, List.drop_eq_getElem_cons h']
 simp [List.getD, List.getElem?_eq_getElem h]
theorem aZY {α : Type} {l : List α} {i : Nat} {d : α} (h : i < l.length) : l.drop i = l.getD i d :: l.drop (i + 1) := by
 rw [List.drop_eq_getElem_cons h]
 simp [List.getD, List.getElem?_eq_getElem h]
def ixg (x : Nat) : List Nat → Nat → Int
 | [], _ => -1
 | a :: t, k => if x = a then (k : Int) else ixg x t (k + 1)
theorem gZH (x : Nat) : ∀ (l : List Nat) (k : Nat), (0 ≤ ixg x l k) ↔ x ∈ l
 | [], k => by simp [ixg]
 | a :: t, k => by
  rw [ixg]
  by_cases h : x = a
  ·rw [if_pos h]; simp [h]
  ·rw [if_neg h, gZH x t (k + 1)]; simp [h]
section
variable (En : Ev)
theorem sindex (l : List Nat) (x : Nat) (hl : l.length ≤ 20) : Fn Tryz.prog En 177 [gP l, ex (.int .i64 (x : Int))] (ex (.int .i64 (ixg x l 0))) := by
 unfold gP
 refine aZb Tryz.func177 rfl Tryz.ntmps177 rfl ?_
 intro w0 h0
 refine js (jr (ja jj (jn (js (js (jr (jm jj (jE jj (jm jj (jn (jb ?_)))))))))))
 refine WpD.loop (α := {i : Nat // i ≤ l.length ∧ ixg x l 0 = ixg x (l.drop i) i}) (fun i => ⟨[(0, .one (slc 1 (ixP l) l.length)), (1, .one (ex (.int .i64 (x : Int)))), (7, .one (ex (.int .i64 (l.length : Int)))), (8, .one (ex (.int .i64 (i.1 : Int))))], []⟩) (fun i => l.length - i.1) ⟨0, Nat.zero_le _, rfl⟩ ?_ ?_
 ·refine Sub.mk ?_ ?_ <;> repeat (first | exact trivial | refine jV jj ?_ | refine jy jj ?_ | refine jw jj (js0 jj) ?_)
 rintro ⟨i, hi, he⟩
 dsimp only at hi he ⊢
 by_cases hlt : i < l.length
 ·have hq := bZy hlt
  have w1 := wS i (by omega)
  rw [aZY (d := 0) hlt, ixg] at he
  generalize l.getD i 0 = a at *
  by_cases hx : x = a
  ·rw [if_pos hx] at he
   rw [he]
   have hx' : (x : Int) = (a : Int) := by omega
   refine js (jr (jS (bLt jj jj) (jn (js (jt jj (jp (js (jb (js (jr (jm jj (ja jj (jn (js (jr (jm jj (jm jj (jm jj (jS (aZc jj jj hlt hq) (jS (aZf jj jj) (jS (bEt jj jj) (jn (jt jj (js (jr (jm jj (ja jj (jn (ji ?_)))))))))))))))))))))))))))))
   exact rtT rfl jj
  ·rw [if_neg hx] at he
   have hx' : (x : Int) ≠ (a : Int) := by omega
   refine js (jr (jS (bLt jj jj) (jn (js (jt jj (jp (js (jb (js (jr (jm jj (ja jj (jn (js (jr (jm jj (jm jj (jm jj (jS (aZc jj jj hlt hq) (jS (aZf jj jj) (jS (bEf jj jj) (jn (jf jj (jp (jr (jS (bAd jj jj w1) (jm jj (jn ?_))))))))))))))))))))))))))))
   refine ⟨⟨i + 1, by omega, he⟩, ?_, by dsimp only; omega⟩
   refine Sub.mk ?_ ?_ <;> repeat (first | exact trivial | refine jV jj ?_ | refine jy jj ?_ | refine jw jj (js0 jj) ?_)
 ·rw [List.drop_of_length_le (by omega), ixg] at he
  rw [he]
  refine js (jr (jS (bLf jj jj) (jn (js (jf jj (je (js (jr (ja jj (jn (ji ?_)))))))))))
  exact rtT rfl jj
theorem jZa (l : List Nat) (x : Nat) (hl : l.length ≤ 20) : Fn Tryz.prog En 170 [gP l, ex (.int .i64 (x : Int))] (ex (.bool (decide (x ∈ l)))) := by
 have C1 := sindex En l x hl
 by_cases h : x ∈ l
 ·rw [decide_eq_true h]
  have := (gZH x l 0).2 h
  refine aZb Tryz.func170 rfl Tryz.ntmps170 rfl ?_
  intro w0 h0
  refine js (jr (ja jj (jn (js (jr (jm jj (jm jj (jS (aZa C1 ⟨jj, jj, trivial⟩) (jS (bHt jj jj) (ja jj (jn (ji ?_))))))))))))
  exact rtT rfl jj
 ·rw [decide_eq_false h]
  have : ¬ 0 ≤ ixg x l 0 := fun h' => h ((gZH x l 0).1 h')
  refine aZb Tryz.func170 rfl Tryz.ntmps170 rfl ?_
  intro w0 h0
  refine js (jr (ja jj (jn (js (jr (jm jj (jm jj (jS (aZa C1 ⟨jj, jj, trivial⟩) (jS (bHf jj jj) (ja jj (jn (ji ?_))))))))))))
  exact rtT rfl jj
end
structure Shp (f : Nat → Co) (n : Nat) : Prop where
 n20 : n ≤ 20
 e0 : ∀ i, i < n → 0 ≤ (f i).e
 e1 : ∀ i, i < n → (f i).e ≤ 60
def fZr (f : Nat → Co) (i : Nat) : Bool := decide ((f i).e = (f (i - 1)).e + 1)
def comp (f : Nat → Co) (n : Nat) : List (List Nat) := allG (grps (fun i => (f i).o) (fZr f) n)
section
variable (En : Ev)
theorem tcomp1 (p : Int) (f : Nat → Co) (n i : Nat) (hi : i < n) : Fn Tryz.prog En 156 [ex (.int .i64 (i : Int)), cpR [ex (.int .i64 p), slc 5 (rows (ccs f) n) n]] (ex (.bool (f i).o)) := by
 have hq : ((rows (ccs f) n).drop (i * 5)).take 5 = coc (f i) := aZo (aZp f) hi
 refine aZb Tryz.func156 rfl Tryz.ntmps156 rfl ?_
 intro w0 h0
 refine js (jr (ja jj (jn (js (jr (jS (aZh jj jj) (jS (aZf jj jj) (jm jj (jS (aZc jj jj hi hq) (jS (aZh jj jj) (jS (aZf jj jj) (ja jj (jn (ji ?_))))))))))))))
 exact rtT rfl jj
theorem tcomp2 (p : Int) (f : Nat → Co) (n i : Nat) (H : Shp f n) (hi : i < n) (h0i : 0 < i) : Fn Tryz.prog En 157 [ex (.int .i64 (i : Int)), cpR [ex (.int .i64 p), slc 5 (rows (ccs f) n) n]] (ex (.bool (fZr f i))) := by
 have hn := H.n20
 have hi2 : i - 1 < n := by omega
 have hq : ((rows (ccs f) n).drop (i * 5)).take 5 = coc (f i) := aZo (aZp f) hi
 have hq2 : ((rows (ccs f) n).drop ((i - 1) * 5)).take 5 = coc (f (i - 1)) := aZo (aZp f) hi2
 have b1 := H.e0 _ hi2
 have b2 := H.e1 _ hi2
 have w1 : IntKind.i64.wrap ((i : Int) - 1) = ((i - 1 : Nat) : Int) := by rw [w64 (by omega) (by omega)]; omega
 have w2 : IntKind.i64.wrap ((f (i - 1)).e + 1) = (f (i - 1)).e + 1 := w64 (by omega) (by omega)
 have hh : ((f i).e == (f (i - 1)).e + 1) = fZr f i := rfl
 refine aZb Tryz.func157 rfl Tryz.ntmps157 rfl ?_
 intro w0 h0
 refine js (jr (ja jj (jn (js (jr (jS (aZh jj jj) (jS (aZf jj jj) (jm jj (jS (aZc jj jj hi hq) (jS (aZh jj jj) (jS (aZf jj jj) (jS (aZh jj jj) (jS (aZf jj jj) (jm jj (jS (bSu jj jj w1) (jS (aZc jj jj hi2 hq2) (jS (aZh jj jj) (jS (aZf jj jj) (jS (bAd jj jj w2) (jS (aZd jj jj (fun w => aZ4 w _ _ _ _ _ _) (aZm hh)) (ja jj (jn (ji ?_)))))))))))))))))))))))
 exact rtT rfl jj
theorem iZQ (p : Int) (f : Nat → Co) (n : Nat) (H : Shp f n) : Fn Tryz.prog En 131 [locP p f n] (bZl (comp f n)) := by
 have C1 := hZe En n H.n20 156 157 [[ex (.int .i64 p), slc 5 (rows (ccs f) n) n]] [[ex (.int .i64 p), slc 5 (rows (ccs f) n) n]] (fun i => (f i).o) (fZr f) (fun i hi => tcomp1 En p f n i hi) (fun i hi h0 => tcomp2 En p f n i H hi h0)
 unfold locP comp
 refine aZb Tryz.func131 rfl Tryz.ntmps131 rfl ?_
 intro w0 h0
 refine js (jr (jB jj jj jj (ja jj (jn ?_))))
 refine WpD.sub (τ := ⟨[(1, .one (cpR [ex (.int .i64 p), slc 5 (rows (ccs f) n) n]))], []⟩) ?_ ?_
 ·exact Sub.pub 1 rfl rfl ⟨.inr (.inr (.inr ⟨_, _, rfl, rfl, PLe.refl _⟩)), trivial⟩ trivial rfl
 repeat (first | apply js | apply jb)
 refine jr (jS (aZh jj jj) (jS (aZf jj jj) (jE jj (jS (cZ5 jj) (jS (cZ5 jj) (jS (aZl (ps := [(_, _), (_, _)]) ⟨jj, Part.c jj, jj, Part.c jj, trivial⟩ jj) (jS (aZa C1 ⟨jj, jj, trivial⟩) (ja jj (jn (ji ?_))))))))))
 exact rtT rfl jj
def cof : List (List Nat) → Nat → List Nat
 | [], _ => []
 | g :: G, i => if i ∈ g then g else cof G i
theorem mZF : PLe (ex (.slice none 0 0)) (gP []) := fun _ _ e => ⟨none, 0, e, Nat.le_refl _, Nat.zero_le _, fun _ => rfl, rfl, fun hn => absurd rfl hn⟩
theorem tcof (p : Int) (f : Nat → Co) (n i : Nat) (H : Shp f n) (hG : ∀ g ∈ comp f n, g.length ≤ 20) (hl : (comp f n).length ≤ 20) : Fn Tryz.prog En 159 [locP p f n, ex (.int .i64 (i : Int))] (gP (cof (comp f n) i)) := by
 have C1 := iZQ En p f n H
 unfold locP at *
 generalize comp f n = G at *
 unfold bZl at C1
 refine aZb Tryz.func159 rfl Tryz.ntmps159 rfl ?_
 intro w0 h0
 refine js (jr (jB jj jj jj (ja jj (jn (js (js (jr (jL jj jj jj (jS (aZa C1 ⟨jj, trivial⟩) (jE jj (jm jj (jn (jb ?_)))))))))))))
 refine WpD.loop (α := {k : Nat // k ≤ G.length ∧ cof G i = cof (G.drop k) i}) (fun k => ⟨[(1, .one (ex (.int .i64 (i : Int)))), (8, .one (slc 1 (G.map gP) G.length)), (9, .one (ex (.int .i64 (G.length : Int)))), (10, .one (ex (.int .i64 (k.1 : Int))))], []⟩) (fun k => G.length - k.1) ⟨0, Nat.zero_le _, rfl⟩ ?_ ?_
 ·refine Sub.mk ?_ ?_ <;> repeat (first | exact trivial | refine jV jj ?_ | refine jy jj ?_ | refine jw jj (js0 jj) ?_)
 rintro ⟨k, hk, he⟩
 dsimp only at hk he ⊢
 by_cases hlt : k < G.length
 ·have hq := dZo hlt
  have w1 := wS k (by omega)
  have hmem := gmem [] hlt
  rw [aZY (d := []) hlt, cof] at he
  have C2 := jZa En (G.getD k []) i (hG _ hmem)
  generalize G.getD k [] = g at *
  by_cases hx : i ∈ g
  ·rw [if_pos hx] at he
   rw [he]
   rw [decide_eq_true hx] at C2
   refine js (jr (jS (bLt jj jj) (jn (js (jt jj (jp (js (jb (js (jr (jS (aZc jj jj hlt hq) (jS (aZf jj jj) (ja jj (jn (js (jr (jm jj (jm jj (jS (aZa C2 ⟨jj, jj, trivial⟩) (jn (jt jj (js (jr (jm jj (ja jj (jn (ji ?_)))))))))))))))))))))))))))
   exact rtT rfl jj
  ·rw [if_neg hx] at he
   rw [decide_eq_false hx] at C2
   refine js (jr (jS (bLt jj jj) (jn (js (jt jj (jp (js (jb (js (jr (jS (aZc jj jj hlt hq) (jS (aZf jj jj) (ja jj (jn (js (jr (jm jj (jm jj (jS (aZa C2 ⟨jj, jj, trivial⟩) (jn (jf jj (jp (jr (jS (bAd jj jj w1) (jm jj (jn ?_))))))))))))))))))))))))))
   refine ⟨⟨k + 1, by omega, he⟩, ?_, by dsimp only; omega⟩
   refine Sub.mk ?_ ?_ <;> repeat (first | exact trivial | refine jV jj ?_ | refine jy jj ?_ | refine jw jj (js0 jj) ?_)
 ·rw [List.drop_of_length_le (by omega), cof] at he
  rw [he]
  refine js (jr (jS (bLf jj jj) (jn (js (jf jj (je (js (jr (ja jj (jn (ji ?_)))))))))))
  exact ret1 rfl (.tmp rfl) mZF
def dZp (f : Nat → Co) (g : List Nat) : Prop := g.length ≠ 2 ∨ (f (g.getD 0 0)).d ≠ 1 ∨ (f (g.getD 1 0)).d ≠ 1 ∨ ((f (g.getD 0 0)).y + (f (g.getD 1 0)).y) % 4 ≠ 0
instance (f : Nat → Co) (g : List Nat) : Decidable (dZp f g) := by unfold dZp; infer_instance
theorem tgood (p : Int) (f : Nat → Co) (n : Nat) (g : List Nat) (hg : ∀ i ∈ g, i < n) (hy : ∀ i, i < n → 0 ≤ (f i).y ∧ (f i).y ≤ 7) : Fn Tryz.prog En 158 [locP p f n, gP g] (ex (.bool (decide (dZp f g)))) := by
 unfold locP gP
 by_cases h2 : g.length = 2
 ·obtain ⟨a, b, rfl⟩ : ∃ a b, g = [a, b] := by
   match g, h2 with
   | [a, b], _ => exact ⟨a, b, rfl⟩
  have ha := hg a (by simp)
  have hb := hg b (by simp)
  have hqa : ((rows (ccs f) n).drop (a * 5)).take 5 = coc (f a) := aZo (aZp f) ha
  have hqb : ((rows (ccs f) n).drop (b * 5)).take 5 = coc (f b) := aZo (aZp f) hb
  have y1 := hy a ha
  have y2 := hy b hb
  have w1 : IntKind.i64.wrap ((f a).y + (f b).y) = (f a).y + (f b).y := w64 (by omega) (by omega)
  have w2 : ((f a).y + (f b).y).tmod 4 = ((f a).y + (f b).y) % 4 := Int.tmod_eq_emod_of_nonneg (by omega)
  have hG : dZp f [a, b] ↔ ((f a).d ≠ 1 ∨ (f b).d ≠ 1 ∨ ((f a).y + (f b).y) % 4 ≠ 0) := by unfold dZp; simp
  rw [show decide (dZp f [a, b]) = _ from decide_eq_decide.2 hG]
  by_cases d1 : (f a).d = 1
  ·by_cases d2 : (f b).d = 1
   ·by_cases d3 : ((f a).y + (f b).y) % 4 = 0
    ·rw [decide_eq_false (by omega)]
     refine aZb Tryz.func158 rfl Tryz.ntmps158 rfl ?_
     intro w0 h0
     refine js (jr (jB jj jj jj (ja jj (jn (js (js (jr (jm jj (jE jj (jS (bNf jj jj) (jn (jf jj (jp (js (jr (jF jj jj (jl jj jj jj (jm jj (jS (aZc (i := 0) jj jj (by simp) jj) (jS (aZf jj jj) (jS (aZc jj jj ha hqa) (jS (aZg jj jj jj) (jF jj jj (jl jj jj jj (jm jj (jS (aZc (i := 1) jj jj (by simp) jj) (jS (aZf jj jj) (jS (aZc jj jj hb hqb) (jS (aZg jj jj jj) (jA jj jj jj (jA jj jj jj (jP jj jj jj jj (jP jj jj jj jj (jn (js (jr (jF jj jj (jl jj jj jj (jS (bNf jj jj) (jm jj (jgf jj jj (jgl jj jj jj (jg (bNf jj jj) (jQ jj jj (jm jj (jgf jj jj (jgl jj jj jj (jgf jj jj (jgl jj jj jj (jg (bAd jj jj w1) (jg (bRe jj jj w2) (jg (bNf jj jj) (jQ jj jj (ja jj (jn ?_)))))))))))))))))))))))))))))))))))))))))))))))))))))))
     refine ji ?_
     exact rtT rfl jj
    ·rw [decide_eq_true (by omega)]
     refine aZb Tryz.func158 rfl Tryz.ntmps158 rfl ?_
     intro w0 h0
     refine js (jr (jB jj jj jj (ja jj (jn (js (js (jr (jm jj (jE jj (jS (bNf jj jj) (jn (jf jj (jp (js (jr (jF jj jj (jl jj jj jj (jm jj (jS (aZc (i := 0) jj jj (by simp) jj) (jS (aZf jj jj) (jS (aZc jj jj ha hqa) (jS (aZg jj jj jj) (jF jj jj (jl jj jj jj (jm jj (jS (aZc (i := 1) jj jj (by simp) jj) (jS (aZf jj jj) (jS (aZc jj jj hb hqb) (jS (aZg jj jj jj) (jA jj jj jj (jA jj jj jj (jP jj jj jj jj (jP jj jj jj jj (jn (js (jr (jF jj jj (jl jj jj jj (jS (bNf jj jj) (jm jj (jgf jj jj (jgl jj jj jj (jg (bNf jj jj) (jQ jj jj (jm jj (jgf jj jj (jgl jj jj jj (jgf jj jj (jgl jj jj jj (jg (bAd jj jj w1) (jg (bRe jj jj w2) (jg (bNt jj jj) (jQ jj jj (ja jj (jn ?_)))))))))))))))))))))))))))))))))))))))))))))))))))))))
     refine ji ?_
     exact rtT rfl jj
   ·rw [decide_eq_true (by omega)]
    refine aZb Tryz.func158 rfl Tryz.ntmps158 rfl ?_
    intro w0 h0
    refine js (jr (jB jj jj jj (ja jj (jn (js (js (jr (jm jj (jE jj (jS (bNf jj jj) (jn (jf jj (jp (js (jr (jF jj jj (jl jj jj jj (jm jj (jS (aZc (i := 0) jj jj (by simp) jj) (jS (aZf jj jj) (jS (aZc jj jj ha hqa) (jS (aZg jj jj jj) (jF jj jj (jl jj jj jj (jm jj (jS (aZc (i := 1) jj jj (by simp) jj) (jS (aZf jj jj) (jS (aZc jj jj hb hqb) (jS (aZg jj jj jj) (jA jj jj jj (jA jj jj jj (jP jj jj jj jj (jP jj jj jj jj (jn (js (jr (jF jj jj (jl jj jj jj (jS (bNf jj jj) (jm jj (jgf jj jj (jgl jj jj jj (jg (bNt jj jj) (jQ jj jj (jm jj (jk (jk (jk (jk (jk (jk (jk (jq jj jj (ja jj (jn ?_)))))))))))))))))))))))))))))))))))))))))))))))))))))))
    refine ji ?_
    exact rtT rfl jj
  ·rw [decide_eq_true (by omega)]
   refine aZb Tryz.func158 rfl Tryz.ntmps158 rfl ?_
   intro w0 h0
   refine js (jr (jB jj jj jj (ja jj (jn (js (js (jr (jm jj (jE jj (jS (bNf jj jj) (jn (jf jj (jp (js (jr (jF jj jj (jl jj jj jj (jm jj (jS (aZc (i := 0) jj jj (by simp) jj) (jS (aZf jj jj) (jS (aZc jj jj ha hqa) (jS (aZg jj jj jj) (jF jj jj (jl jj jj jj (jm jj (jS (aZc (i := 1) jj jj (by simp) jj) (jS (aZf jj jj) (jS (aZc jj jj hb hqb) (jS (aZg jj jj jj) (jA jj jj jj (jA jj jj jj (jP jj jj jj jj (jP jj jj jj jj (jn (js (jr (jF jj jj (jl jj jj jj (jS (bNt jj jj) (jm jj (jk (jk (jk (jq jj jj (jm jj (jk (jk (jk (jk (jk (jk (jk (jq jj jj (ja jj (jn ?_)))))))))))))))))))))))))))))))))))))))))))))))))))))))
   refine ji ?_
   exact rtT rfl jj
 ·rw [decide_eq_true (show dZp f g from .inl h2)]
  have h2' : ((g.length : Nat) : Int) ≠ 2 := by omega
  refine aZb Tryz.func158 rfl Tryz.ntmps158 rfl ?_
  intro w0 h0
  refine js (jr (jB jj jj jj (ja jj (jn (js (js (jr (jm jj (jE jj (jS (bNt jj jj) (jn (jt jj (js (jr (ja jj (jn (ji ?_)))))))))))))))))
  exact rtT rfl jj
theorem gZN (b j : Nat → Bool) : ∀ i, (∀ g ∈ (grps b j i).1, ∀ k ∈ g, k < i) ∧ ∀ k ∈ (grps b j i).2, k < i
 | 0 => by simp [grps]
 | i + 1 => by
  obtain ⟨h1, h2⟩ := gZN b j i
  rw [grps]
  split
  ·exact ⟨fun g hg k hk => Nat.lt_succ_of_lt (h1 g hg k hk), fun k hk => Nat.lt_succ_of_lt (h2 k hk)⟩
  ·split
   ·refine ⟨fun g hg k hk => Nat.lt_succ_of_lt (h1 g hg k hk), fun k hk => ?_⟩
    rcases List.mem_append.1 hk with h | h
    ·exact Nat.lt_succ_of_lt (h2 k h)
    ·simp at h; omega
   ·refine ⟨fun g hg k hk => ?_, fun k hk => by simp at hk; omega⟩
    dsimp only at hg
    split at hg
    ·exact Nat.lt_succ_of_lt (h1 g hg k hk)
    ·rcases List.mem_append.1 hg with h | h
     ·exact Nat.lt_succ_of_lt (h1 g h k hk)
     ·simp at h; subst h; exact Nat.lt_succ_of_lt (h2 k hk)
theorem bZX {b j : Nat → Bool} {n : Nat} : ∀ g ∈ allG (grps b j n), ∀ k ∈ g, k < n := by
 obtain ⟨h1, h2⟩ := gZN b j n
 intro g hg
 unfold allG at hg
 split at hg
 ·exact h1 g hg
 ·rcases List.mem_append.1 hg with h | h
  ·exact h1 g h
  ·simp at h; subst h; exact h2
theorem jZX (b j : Nat → Bool) : ∀ i, (∀ g ∈ (grps b j i).1, g.length ≤ i) ∧ (grps b j i).2.length ≤ i
 | 0 => by simp [grps]
 | i + 1 => by
  obtain ⟨h1, h2⟩ := jZX b j i
  rw [grps]
  split
  ·exact ⟨fun g hg => Nat.le_succ_of_le (h1 g hg), Nat.le_succ_of_le h2⟩
  ·split
   ·exact ⟨fun g hg => Nat.le_succ_of_le (h1 g hg), by simp; omega⟩
   ·refine ⟨fun g hg => ?_, by simp⟩
    dsimp only at hg
    split at hg
    ·exact Nat.le_succ_of_le (h1 g hg)
    ·rcases List.mem_append.1 hg with h | h
     ·exact Nat.le_succ_of_le (h1 g h)
     ·simp at h; subst h; omega
theorem bZY {b j : Nat → Bool} {n : Nat} : ∀ g ∈ allG (grps b j n), g.length ≤ n := by
 obtain ⟨h1, h2⟩ := jZX b j n
 intro g hg
 unfold allG at hg
 split at hg
 ·exact h1 g hg
 ·rcases List.mem_append.1 hg with h | h
  ·exact h1 g h
  ·simp at h; subst h; exact h2
theorem eZy : ∀ (G : List (List Nat)) (i : Nat), cof G i = [] ∨ cof G i ∈ G
 | [], _ => .inl rfl
 | g :: G, i => by
  rw [cof]
  split
  ·exact .inr (by simp)
  ·rcases eZy G i with h | h
   ·exact .inl h
   ·exact .inr (by simp [h])
def lnk (f : Nat → Co) (n i : Nat) : Bool :=
 if (f i).e - (f (i - 1)).e = 1 then (if (f (i - 1)).o = true ∧ (f i).o = true then decide (dZp f (cof (comp f n) i)) else ((f (i - 1)).o || (f i).o))
 else if (f i).e - (f (i - 1)).e = 2 then ((f (i - 1)).o && (f i).o) else false
set_option maxHeartbeats 1000000 in
theorem tlinked (p : Int) (f : Nat → Co) (n i : Nat) (H : Shp f n) (hy : ∀ i, i < n → 0 ≤ (f i).y ∧ (f i).y ≤ 7) (hi : i < n) (h0i : 0 < i) : Fn Tryz.prog En 135 [locP p f n, ex (.int .i64 (i : Int))] (ex (.bool (lnk f n i))) := by
 have hn := H.n20
 have hi2 : i - 1 < n := by omega
 have hq2 : ((rows (ccs f) n).drop (i * 5)).take 5 = coc (f i) := aZo (aZp f) hi
 have hq1 : ((rows (ccs f) n).drop ((i - 1) * 5)).take 5 = coc (f (i - 1)) := aZo (aZp f) hi2
 have b1 := H.e0 _ hi2
 have b2 := H.e1 _ hi2
 have b3 := H.e0 _ hi
 have b4 := H.e1 _ hi
 have w1 : IntKind.i64.wrap ((i : Int) - 1) = ((i - 1 : Nat) : Int) := by rw [w64 (by omega) (by omega)]; omega
 have w2 : IntKind.i64.wrap ((f i).e - (f (i - 1)).e) = (f i).e - (f (i - 1)).e := w64 (by omega) (by omega)
 have C1 := tcof En p f n i H (fun g hg => Nat.le_trans (bZY g hg) hn) (Nat.le_trans (bZ2 _ _ _).1 hn)
 have C2 := tgood En p f n (cof (comp f n) i) (fun k hk => by
  rcases eZy (comp f n) i with h | h
  ·rw [h] at hk; cases hk
  ·exact bZX _ h k hk) hy
 unfold lnk
 unfold locP at *
 unfold coc at hq1 hq2
 by_cases d1 : (f i).e - (f (i - 1)).e = 1
 ·rw [if_pos d1]
  cases ho1 : (f (i - 1)).o with
  | true =>
   rw [ho1] at hq1
   cases ho2 : (f i).o with
   | true =>
    rw [ho2] at hq2
    rw [if_pos ⟨rfl, rfl⟩]
    refine aZb Tryz.func135 rfl Tryz.ntmps135 rfl ?_
    intro w0 h0
    refine js (jr (jB jj jj jj (ja jj (jn (js (jr (jF jj jj (jl jj jj jj (jm jj (jS (bSu jj jj w1) (jS (aZc jj jj hi2 hq1) (jS (aZg jj jj jj) (jF jj jj (jl jj jj jj (jm jj (jS (aZc jj jj hi hq2) (jS (aZg jj jj jj) (jA jj jj jj (jA jj jj jj (jP jj jj jj jj (jP jj jj jj jj (jn (js (js (jr (jF jj jj (jl jj jj jj (jF jj jj (jl jj jj jj (jS (bSu jj jj w2) (jn (jb (js (jr (jS (bEt jj jj) (ja jj (jn (jt jj (js (js (jr (jF jj jj (jl jj jj jj (jm jj ?_))))))))))))))))))))))))))))))))))))))))))))
    first | refine jgf jj jj ?_ | refine jk ?_ | refine ju ?_
    first | refine jgl jj jj jj ?_ | refine jk ?_ | refine ju ?_
    first | refine jq jj jj ?_ | refine jQ jj jj ?_
    refine jn (jt jj (js (jr (jL jj jj jj (jL jj jj jj (jm jj (jS (aZa C1 ⟨jj, jj, trivial⟩) (jS (aZa C2 ⟨jj, jj, trivial⟩) (ja jj (jn (ji ?_)))))))))))
    exact rtT rfl jj
   | false =>
    rw [ho2] at hq2
    rw [if_neg (by simp)]
    refine aZb Tryz.func135 rfl Tryz.ntmps135 rfl ?_
    intro w0 h0
    refine js (jr (jB jj jj jj (ja jj (jn (js (jr (jF jj jj (jl jj jj jj (jm jj (jS (bSu jj jj w1) (jS (aZc jj jj hi2 hq1) (jS (aZg jj jj jj) (jF jj jj (jl jj jj jj (jm jj (jS (aZc jj jj hi hq2) (jS (aZg jj jj jj) (jA jj jj jj (jA jj jj jj (jP jj jj jj jj (jP jj jj jj jj (jn (js (js (jr (jF jj jj (jl jj jj jj (jF jj jj (jl jj jj jj (jS (bSu jj jj w2) (jn (jb (js (jr (jS (bEt jj jj) (ja jj (jn (jt jj (js (js (jr (jF jj jj (jl jj jj jj (jm jj ?_))))))))))))))))))))))))))))))))))))))))))))
    first | refine jgf jj jj ?_ | refine jk ?_ | refine ju ?_
    first | refine jgl jj jj jj ?_ | refine jk ?_ | refine ju ?_
    first | refine jq jj jj ?_ | refine jQ jj jj ?_
    refine jn (jf jj (jp (js (jr (jF jj jj (jl jj jj jj (jm jj ?_)))))))
    first | refine jgf jj jj ?_ | refine jk ?_ | refine ju ?_
    first | refine jgl jj jj jj ?_ | refine jk ?_ | refine ju ?_
    first | refine jq jj jj ?_ | refine jQ jj jj ?_
    refine ja jj (jn (ji ?_))
    exact rtT rfl jj
  | false =>
   rw [ho1] at hq1
   cases ho2 : (f i).o with
   | true =>
    rw [ho2] at hq2
    rw [if_neg (by simp)]
    refine aZb Tryz.func135 rfl Tryz.ntmps135 rfl ?_
    intro w0 h0
    refine js (jr (jB jj jj jj (ja jj (jn (js (jr (jF jj jj (jl jj jj jj (jm jj (jS (bSu jj jj w1) (jS (aZc jj jj hi2 hq1) (jS (aZg jj jj jj) (jF jj jj (jl jj jj jj (jm jj (jS (aZc jj jj hi hq2) (jS (aZg jj jj jj) (jA jj jj jj (jA jj jj jj (jP jj jj jj jj (jP jj jj jj jj (jn (js (js (jr (jF jj jj (jl jj jj jj (jF jj jj (jl jj jj jj (jS (bSu jj jj w2) (jn (jb (js (jr (jS (bEt jj jj) (ja jj (jn (jt jj (js (js (jr (jF jj jj (jl jj jj jj (jm jj ?_))))))))))))))))))))))))))))))))))))))))))))
    first | refine jgf jj jj ?_ | refine jk ?_ | refine ju ?_
    first | refine jgl jj jj jj ?_ | refine jk ?_ | refine ju ?_
    first | refine jq jj jj ?_ | refine jQ jj jj ?_
    refine jn (jf jj (jp (js (jr (jF jj jj (jl jj jj jj (jm jj ?_)))))))
    first | refine jgf jj jj ?_ | refine jk ?_ | refine ju ?_
    first | refine jgl jj jj jj ?_ | refine jk ?_ | refine ju ?_
    first | refine jq jj jj ?_ | refine jQ jj jj ?_
    refine ja jj (jn (ji ?_))
    exact rtT rfl jj
   | false =>
    rw [ho2] at hq2
    rw [if_neg (by simp)]
    refine aZb Tryz.func135 rfl Tryz.ntmps135 rfl ?_
    intro w0 h0
    refine js (jr (jB jj jj jj (ja jj (jn (js (jr (jF jj jj (jl jj jj jj (jm jj (jS (bSu jj jj w1) (jS (aZc jj jj hi2 hq1) (jS (aZg jj jj jj) (jF jj jj (jl jj jj jj (jm jj (jS (aZc jj jj hi hq2) (jS (aZg jj jj jj) (jA jj jj jj (jA jj jj jj (jP jj jj jj jj (jP jj jj jj jj (jn (js (js (jr (jF jj jj (jl jj jj jj (jF jj jj (jl jj jj jj (jS (bSu jj jj w2) (jn (jb (js (jr (jS (bEt jj jj) (ja jj (jn (jt jj (js (js (jr (jF jj jj (jl jj jj jj (jm jj ?_))))))))))))))))))))))))))))))))))))))))))))
    first | refine jgf jj jj ?_ | refine jk ?_ | refine ju ?_
    first | refine jgl jj jj jj ?_ | refine jk ?_ | refine ju ?_
    first | refine jq jj jj ?_ | refine jQ jj jj ?_
    refine jn (jf jj (jp (js (jr (jF jj jj (jl jj jj jj (jm jj ?_)))))))
    first | refine jgf jj jj ?_ | refine jk ?_ | refine ju ?_
    first | refine jgl jj jj jj ?_ | refine jk ?_ | refine ju ?_
    first | refine jq jj jj ?_ | refine jQ jj jj ?_
    refine ja jj (jn (ji ?_))
    exact rtT rfl jj
 ·rw [if_neg d1]
  by_cases d2 : (f i).e - (f (i - 1)).e = 2
  ·rw [if_pos d2]
   cases ho1 : (f (i - 1)).o with
   | true =>
    rw [ho1] at hq1
    cases ho2 : (f i).o with
    | true =>
     rw [ho2] at hq2
     refine aZb Tryz.func135 rfl Tryz.ntmps135 rfl ?_
     intro w0 h0
     refine js (jr (jB jj jj jj (ja jj (jn (js (jr (jF jj jj (jl jj jj jj (jm jj (jS (bSu jj jj w1) (jS (aZc jj jj hi2 hq1) (jS (aZg jj jj jj) (jF jj jj (jl jj jj jj (jm jj (jS (aZc jj jj hi hq2) (jS (aZg jj jj jj) (jA jj jj jj (jA jj jj jj (jP jj jj jj jj (jP jj jj jj jj (jn (js (js (jr (jF jj jj (jl jj jj jj (jF jj jj (jl jj jj jj (jS (bSu jj jj w2) (jn (jb (js (jr (jS (bEf jj jj) (ja jj (jn (jf jj (js (jr (jS (bEt jj jj) (ja jj (jn ?_)))))))))))))))))))))))))))))))))))))))))))
     refine jt jj (js (jr (jF jj jj (jl jj jj jj (jm jj ?_)))))
     first | refine jgf jj jj ?_ | refine jk ?_ | refine ju ?_
     first | refine jgl jj jj jj ?_ | refine jk ?_ | refine ju ?_
     first | refine jq jj jj ?_ | refine jQ jj jj ?_
     refine ja jj (jn (ji ?_))
     exact rtT rfl jj
    | false =>
     rw [ho2] at hq2
     refine aZb Tryz.func135 rfl Tryz.ntmps135 rfl ?_
     intro w0 h0
     refine js (jr (jB jj jj jj (ja jj (jn (js (jr (jF jj jj (jl jj jj jj (jm jj (jS (bSu jj jj w1) (jS (aZc jj jj hi2 hq1) (jS (aZg jj jj jj) (jF jj jj (jl jj jj jj (jm jj (jS (aZc jj jj hi hq2) (jS (aZg jj jj jj) (jA jj jj jj (jA jj jj jj (jP jj jj jj jj (jP jj jj jj jj (jn (js (js (jr (jF jj jj (jl jj jj jj (jF jj jj (jl jj jj jj (jS (bSu jj jj w2) (jn (jb (js (jr (jS (bEf jj jj) (ja jj (jn (jf jj (js (jr (jS (bEt jj jj) (ja jj (jn ?_)))))))))))))))))))))))))))))))))))))))))))
     refine jt jj (js (jr (jF jj jj (jl jj jj jj (jm jj ?_)))))
     first | refine jgf jj jj ?_ | refine jk ?_ | refine ju ?_
     first | refine jgl jj jj jj ?_ | refine jk ?_ | refine ju ?_
     first | refine jq jj jj ?_ | refine jQ jj jj ?_
     refine ja jj (jn (ji ?_))
     exact rtT rfl jj
   | false =>
    rw [ho1] at hq1
    cases ho2 : (f i).o with
    | true =>
     rw [ho2] at hq2
     refine aZb Tryz.func135 rfl Tryz.ntmps135 rfl ?_
     intro w0 h0
     refine js (jr (jB jj jj jj (ja jj (jn (js (jr (jF jj jj (jl jj jj jj (jm jj (jS (bSu jj jj w1) (jS (aZc jj jj hi2 hq1) (jS (aZg jj jj jj) (jF jj jj (jl jj jj jj (jm jj (jS (aZc jj jj hi hq2) (jS (aZg jj jj jj) (jA jj jj jj (jA jj jj jj (jP jj jj jj jj (jP jj jj jj jj (jn (js (js (jr (jF jj jj (jl jj jj jj (jF jj jj (jl jj jj jj (jS (bSu jj jj w2) (jn (jb (js (jr (jS (bEf jj jj) (ja jj (jn (jf jj (js (jr (jS (bEt jj jj) (ja jj (jn ?_)))))))))))))))))))))))))))))))))))))))))))
     refine jt jj (js (jr (jF jj jj (jl jj jj jj (jm jj ?_)))))
     first | refine jgf jj jj ?_ | refine jk ?_ | refine ju ?_
     first | refine jgl jj jj jj ?_ | refine jk ?_ | refine ju ?_
     first | refine jq jj jj ?_ | refine jQ jj jj ?_
     refine ja jj (jn (ji ?_))
     exact rtT rfl jj
    | false =>
     rw [ho2] at hq2
     refine aZb Tryz.func135 rfl Tryz.ntmps135 rfl ?_
     intro w0 h0
     refine js (jr (jB jj jj jj (ja jj (jn (js (jr (jF jj jj (jl jj jj jj (jm jj (jS (bSu jj jj w1) (jS (aZc jj jj hi2 hq1) (jS (aZg jj jj jj) (jF jj jj (jl jj jj jj (jm jj (jS (aZc jj jj hi hq2) (jS (aZg jj jj jj) (jA jj jj jj (jA jj jj jj (jP jj jj jj jj (jP jj jj jj jj (jn (js (js (jr (jF jj jj (jl jj jj jj (jF jj jj (jl jj jj jj (jS (bSu jj jj w2) (jn (jb (js (jr (jS (bEf jj jj) (ja jj (jn (jf jj (js (jr (jS (bEt jj jj) (ja jj (jn ?_)))))))))))))))))))))))))))))))))))))))))))
     refine jt jj (js (jr (jF jj jj (jl jj jj jj (jm jj ?_)))))
     first | refine jgf jj jj ?_ | refine jk ?_ | refine ju ?_
     first | refine jgl jj jj jj ?_ | refine jk ?_ | refine ju ?_
     first | refine jq jj jj ?_ | refine jQ jj jj ?_
     refine ja jj (jn (ji ?_))
     exact rtT rfl jj
  ·rw [if_neg d2]
   refine aZb Tryz.func135 rfl Tryz.ntmps135 rfl ?_
   intro w0 h0
   refine js (jr (jB jj jj jj (ja jj (jn (js (jr (jF jj jj (jl jj jj jj (jm jj (jS (bSu jj jj w1) (jS (aZc jj jj hi2 hq1) (jS (aZg jj jj jj) (jF jj jj (jl jj jj jj (jm jj (jS (aZc jj jj hi hq2) (jS (aZg jj jj jj) (jA jj jj jj (jA jj jj jj (jP jj jj jj jj (jP jj jj jj jj (jn (js (js (jr (jF jj jj (jl jj jj jj (jF jj jj (jl jj jj jj (jS (bSu jj jj w2) (jn (jb (js (jr (jS (bEf jj jj) (ja jj (jn (jf jj (js (jr (jS (bEf jj jj) (ja jj (jn ?_)))))))))))))))))))))))))))))))))))))))))))
   refine jf jj (jp (js (jr (ja jj (jn (ji ?_))))))
   exact rtT rfl jj
end
end Go.Proofs.YtdieokoenhncfaaGreatDoor

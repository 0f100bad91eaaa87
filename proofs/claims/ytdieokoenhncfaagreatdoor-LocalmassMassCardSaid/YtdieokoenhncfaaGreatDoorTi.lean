/- Trains; the shape of a symbol at 2; what is fused: the program's. (With LT.skipU.) -/
import Derived.Test.YtdieokoenhncfaaGreatDoorMem
import Derived.Test.YtdieokoenhncfaaGreatDoorTh
set_option maxRecDepth 3000
namespace Go.Proofs.YtdieokoenhncfaaGreatDoor
open Go.RowKit Limb Num
instance cbody96 : CBody Tryz.prog 96 := ⟨⟨_, Tryz.func96, rfl, by rfl⟩⟩
instance (f : Go.Fn) (a b : Array Value) : C1 (ex (.func f a b)) := ⟨fun _ _ h => by rw [h]; rfl⟩
theorem agg2_le {p q r : Pd} (h : PLe p q) : PLe (aggP [p, r]) (aggP [q, r]) := by
 rintro h' v ⟨vs, e, ha⟩
 match vs, ha with
 | [a, b], ⟨h1, h2, h3, h4, h5⟩ => exact ⟨[a, b], e, h _ _ h1, h2, h3, h4, h5⟩
section
variable (En : Ev)
theorem ttrue (i : Nat) : Fn Tryz.prog En 133 [ex (.int .i64 (i : Int))] (ex (.bool true)) := by
 refine aZb Tryz.func133 rfl Tryz.ntmps133 rfl ?_
 intro w0 h0
 refine js (jr (ja jj (jn (js (jr (ja jj (jn (ji ?_))))))))
 exact rtT rfl jj
theorem ttrain2 (p : Int) (f : Nat → Co) (n i : Nat) (H : Shp f n) (hy : ∀ i, i < n → 0 ≤ (f i).y ∧ (f i).y ≤ 7) (hi : i < n) (h0i : 0 < i) : Fn Tryz.prog En 134 [ex (.int .i64 (i : Int)), cpR [ex (.int .i64 p), slc 5 (rows (ccs f) n) n]] (ex (.bool (lnk f n i))) := by
 have C1 := tlinked En p f n i H hy hi h0i
 unfold locP at C1
 refine aZb Tryz.func134 rfl Tryz.ntmps134 rfl ?_
 intro w0 h0
 refine js (jr (ja jj (jn (js (jr (jS (aZg jj jj jj) (jm jj (jS (aZa C1 ⟨jj, jj, trivial⟩) (ja jj (jn (ji ?_)))))))))))
 exact rtT rfl jj
def chn (f : Nat → Co) (n : Nat) : List (List Nat) := allG (grps (fun _ => true) (lnk f n) n)
theorem ttrains (p : Int) (f : Nat → Co) (n : Nat) (H : Shp f n) (hy : ∀ i, i < n → 0 ≤ (f i).y ∧ (f i).y ≤ 7) : Fn Tryz.prog En 97 [locP p f n] (bZl (chn f n)) := by
 have C0 := hZe En n H.n20 133 134 [] [[ex (.int .i64 p), slc 5 (rows (ccs f) n) n]] (fun _ => true) (lnk f n) (fun i _ => ttrue En i) (fun i hi h0 => ttrain2 En p f n i H hy hi h0)
 have C1 := C0.arg (ps := [ex (.int .i64 (n : Int)), aggP [ex (.func (.func 133) #[] #[]), cl 134 [[ex (.int .i64 p), slc 5 (rows (ccs f) n) n]]]]) ⟨PLe.refl _, agg2_le (cl_nil _), trivial⟩
 unfold locP chn
 refine aZb Tryz.func97 rfl Tryz.ntmps97 rfl ?_
 intro w0 h0
 refine js (jr (jB jj jj jj (ja jj (jn ?_))))
 refine WpD.sub (τ := ⟨[(1, .one (cpR [ex (.int .i64 p), slc 5 (rows (ccs f) n) n]))], []⟩) ?_ ?_
 ·exact Sub.pub 1 rfl rfl ⟨.inr (.inr (.inr ⟨_, _, rfl, rfl, PLe.refl _⟩)), trivial⟩ trivial rfl
 repeat (first | apply js | apply jb)
 refine jr (jS (aZh jj jj) (jS (aZf jj jj) (jE jj (jS (cZ5 jj) (jS (aZl (ps := [(_, _), (_, _)]) ⟨jj, Part.c jj, jj, Part.c jj, trivial⟩ jj) (jS (aZa C1 ⟨jj, jj, trivial⟩) (ja jj (jn (ji ?_)))))))))
 exact rtT rfl jj
end
def bZS (f : Nat → Co) (i : Nat) : Int := if i = 0 then -1 else (f (i - 1)).e
def dsm2 (f : Nat → Co) : Nat → Int
 | 0 => 0
 | i + 1 => dsm2 f i + (f i).d
def shU (f : Nat → Co) : Nat → Prop
 | 0 => True
 | i + 1 => shU f i ∧ bZS f i < (f i).e ∧ (f i).e ≤ 60 ∧ 1 ≤ (f i).d ∧ (f i).d ≤ 8 - dsm2 f i
instance shU_dec (f : Nat → Co) : ∀ n, Decidable (shU f n)
 | 0 => .isTrue trivial
 | n + 1 => by unfold shU; have := shU_dec f n; infer_instance
def shP (p : Int) (f : Nat → Co) (n : Nat) : Prop := p = 2 ∧ n ≠ 0 ∧ shU f n
instance (p : Int) (f : Nat → Co) (n : Nat) : Decidable (shP p f n) := by unfold shP; infer_instance
theorem fZM {f : Nat → Co} : ∀ {n i : Nat}, i ≤ n → shU f n → shU f i
 | 0, i, h, hs => by rw [show i = 0 by omega]; exact hs
 | n + 1, i, h, hs => by
  by_cases e : i = n + 1
  ·rw [e]; exact hs
  ·exact fZM (by omega) hs.1
theorem eZC {f : Nat → Co} : ∀ {i : Nat}, shU f i → (i : Int) ≤ dsm2 f i ∧ dsm2 f i ≤ 8 ∧ -1 ≤ bZS f i ∧ bZS f i ≤ 60
 | 0, _ => by simp [dsm2, bZS]
 | i + 1, ⟨h1, h2, h3, h4, h5⟩ => by
  obtain ⟨a, b, c, d⟩ := eZC h1
  have e1 : dsm2 f (i + 1) = dsm2 f i + (f i).d := rfl
  have e2 : bZS f (i + 1) = (f i).e := by unfold bZS; rw [if_neg (by omega), Nat.add_sub_cancel]
  rw [e1, e2]
  omega
theorem dZ1 (f : Nat → Co) (i : Nat) : bZS f (i + 1) = (f i).e := by unfold bZS; rw [if_neg (by omega), Nat.add_sub_cancel]
section
variable (En : Ev)
set_option maxHeartbeats 1000000 in
theorem iZO (p : Int) (f : Nat → Co) (n : Nat) (hn : n ≤ 1000) : Fn Tryz.prog En 94 [locP p f n] (ex (.bool (decide (shP p f n)))) := by
 unfold locP
 by_cases hp : p = 2
 ·by_cases hn0 : n = 0
  ·rw [decide_eq_false (fun h => h.2.1 hn0)]
   have hn' : ((n : Nat) : Int) = 0 := by omega
   refine aZb Tryz.func94 rfl Tryz.ntmps94 rfl ?_
   intro w0 h0
   refine js (jr (jB jj jj jj (ja jj (jn (js (js (jr (jF jj jj (jl jj jj jj (jS (bNf jj jj) (jm jj (jgf jj jj (jgl jj jj jj (jg (bZd jj CSlice.ok) (jg (bEt jj jj) (jQ jj jj (jn (jt jj (js (jr (ja jj (jn (ji ?_)))))))))))))))))))))))
   exact rtT rfl jj
  ·have hn' : ((n : Nat) : Int) ≠ 0 := by omega
   have key : ∀ i, i < n → ¬ shU f (i + 1) → ¬ shP p f n := fun i hi h h' => h (fZM (by omega) h'.2.2)
   refine aZb Tryz.func94 rfl Tryz.ntmps94 rfl ?_
   intro w0 h0
   refine js (jr (jB jj jj jj (ja jj (jn (js (js (jr (jF jj jj (jl jj jj jj (jS (bNf jj jj) (jm jj (jgf jj jj (jgl jj jj jj (jg (bZd jj CSlice.ok) (jg (bEf jj jj) (jQ jj jj (jn (jf jj (jp (js (jr (ja jj (ja jj (jn (js (js (jr (jF jj jj (jl jj jj jj (jE jj (jm jj (jn (jb ?_)))))))))))))))))))))))))))))))))
   refine WpD.loop (α := {i : Nat // i ≤ n ∧ shU f i}) (fun i => ⟨[(3, .one (ex (.int .i64 (dsm2 f i.1)))), (4, .one (ex (.int .i64 (bZS f i.1)))), (17, .one (slc 5 (rows (ccs f) n) n)), (18, .one (ex (.int .i64 (n : Int)))), (19, .one (ex (.int .i64 (i.1 : Int))))], []⟩) (fun i => n - i.1) ⟨0, Nat.zero_le _, trivial⟩ ?_ ?_
   ·refine Sub.mk ?_ ?_ <;> repeat (first | exact trivial | refine jV jj ?_ | refine jy jj ?_ | refine jw jj (js0 jj) ?_)
   rintro ⟨i, hi, hs⟩
   dsimp only at hi hs ⊢
   obtain ⟨s1, s2, s3, s4⟩ := eZC hs
   by_cases hlt : i < n
   ·have hq : ((rows (ccs f) n).drop (i * 5)).take 5 = coc (f i) := aZo (aZp f) hlt
    have w1 := wS i (by omega)
    have w2 : IntKind.i64.wrap (8 - dsm2 f i) = 8 - dsm2 f i := w64 (by omega) (by omega)
    by_cases c1 : (f i).e ≤ bZS f i
    ·rw [decide_eq_false (key i hlt fun h => by have := h.2.1; omega)]
     refine js (jr (jS (bLt jj jj) (jn (js (jt jj (jp (js (jb (js (jr (jS (aZc jj jj hlt hq) (jS (aZg jj jj jj) (jA jj jj jj (jP jj jj jj jj (jn (js (js (jr (jF jj jj (jl jj jj jj (jm jj (jS (bMt jj jj) (jm jj (jk (jk (jk (jq jj jj (jm jj (jk (jk (jk (jq jj jj (jm jj (jk (jk (jk (jk (jk (jq jj jj (jn ?_))))))))))))))))))))))))))))))))))))))))
     refine jt jj (js (jr (ja jj (jn (ji ?_)))))
     exact rtT rfl jj
    by_cases c2 : (f i).e > 60
    ·rw [decide_eq_false (key i hlt fun h => by have := h.2.2.1; omega)]
     refine js (jr (jS (bLt jj jj) (jn (js (jt jj (jp (js (jb (js (jr (jS (aZc jj jj hlt hq) (jS (aZg jj jj jj) (jA jj jj jj (jP jj jj jj jj (jn (js (js (jr (jF jj jj (jl jj jj jj (jm jj (jS (bMf jj jj) (jm jj (jgf jj jj (jgl jj jj jj (jg (bGt jj jj) (jQ jj jj (jm jj (jk (jk (jk (jq jj jj (jm jj (jk (jk (jk (jk (jk (jq jj jj (jn ?_))))))))))))))))))))))))))))))))))))))))
     refine jt jj (js (jr (ja jj (jn (ji ?_)))))
     exact rtT rfl jj
    by_cases c3 : (f i).d < 1
    ·rw [decide_eq_false (key i hlt fun h => by have := h.2.2.2.1; omega)]
     refine js (jr (jS (bLt jj jj) (jn (js (jt jj (jp (js (jb (js (jr (jS (aZc jj jj hlt hq) (jS (aZg jj jj jj) (jA jj jj jj (jP jj jj jj jj (jn (js (js (jr (jF jj jj (jl jj jj jj (jm jj (jS (bMf jj jj) (jm jj (jgf jj jj (jgl jj jj jj (jg (bGf jj jj) (jQ jj jj (jm jj (jgf jj jj (jgl jj jj jj (jg (bLt jj jj) (jQ jj jj (jm jj (jk (jk (jk (jk (jk (jq jj jj (jn ?_))))))))))))))))))))))))))))))))))))))))
     refine jt jj (js (jr (ja jj (jn (ji ?_)))))
     exact rtT rfl jj
    by_cases c4 : (f i).d > 8 - dsm2 f i
    ·rw [decide_eq_false (key i hlt fun h => by have := h.2.2.2.2; omega)]
     refine js (jr (jS (bLt jj jj) (jn (js (jt jj (jp (js (jb (js (jr (jS (aZc jj jj hlt hq) (jS (aZg jj jj jj) (jA jj jj jj (jP jj jj jj jj (jn (js (js (jr (jF jj jj (jl jj jj jj (jm jj (jS (bMf jj jj) (jm jj (jgf jj jj (jgl jj jj jj (jg (bGf jj jj) (jQ jj jj (jm jj (jgf jj jj (jgl jj jj jj (jg (bLf jj jj) (jQ jj jj (jm jj (jgf jj jj (jgl jj jj jj (jgm jj (jg (bSu jj jj w2) (jg (bGt jj jj) (jQ jj jj (jn ?_))))))))))))))))))))))))))))))))))))))))
     refine jt jj (js (jr (ja jj (jn (ji ?_)))))
     exact rtT rfl jj
    have w3 : IntKind.i64.wrap (dsm2 f i + (f i).d) = dsm2 f (i + 1) := w64 (by omega) (by omega)
    refine js (jr (jS (bLt jj jj) (jn (js (jt jj (jp (js (jb (js (jr (jS (aZc jj jj hlt hq) (jS (aZg jj jj jj) (jA jj jj jj (jP jj jj jj jj (jn (js (js (jr (jF jj jj (jl jj jj jj (jm jj (jS (bMf jj jj) (jm jj (jgf jj jj (jgl jj jj jj (jg (bGf jj jj) (jQ jj jj (jm jj (jgf jj jj (jgl jj jj jj (jg (bLf jj jj) (jQ jj jj (jm jj (jgf jj jj (jgl jj jj jj (jgm jj (jg (bSu jj jj w2) (jg (bGf jj jj) (jQ jj jj (jn ?_))))))))))))))))))))))))))))))))))))))))
    refine jf jj (jp (js (jr (jm jj (jF jj jj (jl jj jj jj (jS (bAd jj jj w3) (ja jj (jn (jr (jF jj jj (jl jj jj jj (ja jj (jn (jr (jS (bAd jj jj w1) (jm jj (jn ?_))))))))))))))))))
    refine ⟨⟨i + 1, by omega, hs, by omega, by omega, by omega, by omega⟩, ?_, by dsimp only; omega⟩
    dsimp only
    rw [dZ1]
    refine Sub.mk ?_ ?_ <;> repeat (first | exact trivial | refine jV jj ?_ | refine jy jj ?_ | refine jw jj (js0 jj) ?_)
   ·have hin : i = n := by omega
    subst hin
    rw [decide_eq_true (show shP p f i from ⟨hp, hn0, hs⟩)]
    refine js (jr (jS (bLf jj jj) (jn (js (jf jj (je (js (jr (ja jj (jn (ji ?_)))))))))))
    exact rtT rfl jj
 ·rw [decide_eq_false (fun h => hp h.1)]
  refine aZb Tryz.func94 rfl Tryz.ntmps94 rfl ?_
  intro w0 h0
  refine js (jr (jB jj jj jj (ja jj (jn (js (js (jr (jF jj jj (jl jj jj jj (jS (bNt jj jj) (jm jj (jk (jk (jk (jk (jq jj jj (jn (jt jj (js (jr (ja jj (jn (ji ?_)))))))))))))))))))))))
  exact rtT rfl jj
end
theorem tm2 (a : Int) : (a.tmod 2 != 0) = decide (a % 2 ≠ 0) := by
 have h : a.tmod 2 = 0 ↔ a % 2 = 0 := by
  rw [← Int.dvd_iff_tmod_eq_zero, Int.dvd_iff_emod_eq_zero]
 by_cases h1 : a % 2 = 0
 ·rw [h.2 h1, decide_eq_false (by simp [h1])]; rfl
 ·rw [decide_eq_true h1]
  exact bne_iff_ne.2 fun h2 => h1 (h.1 h2)
def frow (c : Co) : Prop := (c.s = 1 ∨ c.s = -1) ∧ 0 ≤ c.y ∧ c.y ≤ 7 ∧ (c.o = false → c.d % 2 = 0 ∧ c.y = 0)
instance (c : Co) : Decidable (frow c) := by unfold frow; infer_instance
def fuU (f : Nat → Co) : Nat → Prop
 | 0 => True
 | i + 1 => fuU f i ∧ frow (f i)
instance fuU_dec (f : Nat → Co) : ∀ n, Decidable (fuU f n)
 | 0 => .isTrue trivial
 | n + 1 => by unfold fuU; have := fuU_dec f n; infer_instance
theorem kZa {f : Nat → Co} : ∀ {n i : Nat}, i ≤ n → fuU f n → fuU f i
 | 0, i, h, hs => by rw [show i = 0 by omega]; exact hs
 | n + 1, i, h, hs => by
  by_cases e : i = n + 1
  ·rw [e]; exact hs
  ·exact kZa (by omega) hs.1
theorem bZ7 {f : Nat → Co} {n i : Nat} (h : fuU f n) (hi : i < n) : frow (f i) := (kZa (i := i + 1) (by omega) h).2
theorem aZD {f : Nat → Co} {n i : Nat} (h : shU f n) (hi : i < n) : 0 ≤ (f i).e ∧ (f i).e ≤ 60 ∧ 1 ≤ (f i).d ∧ (f i).d ≤ 8 := by
 have h1 := fZM (i := i + 1) (by omega) h
 obtain ⟨a, b, c, d⟩ := eZC h1.1
 obtain ⟨_, h2, h3, h4, h5⟩ := h1
 omega
theorem shU_n {f : Nat → Co} {n : Nat} (h : shU f n) : n ≤ 8 := by have := eZC h; omega
def gU (f : Nat → Co) (g : List Nat) : Nat → Prop
 | 0 => True
 | k + 1 => gU f g k ∧ (0 < k → (f (g.getD k 0)).y = 0)
instance gU_dec (f : Nat → Co) (g : List Nat) : ∀ n, Decidable (gU f g n)
 | 0 => .isTrue trivial
 | n + 1 => by unfold gU; have := gU_dec f g n; infer_instance
theorem gU_le {f : Nat → Co} {g : List Nat} : ∀ {n i : Nat}, i ≤ n → gU f g n → gU f g i
 | 0, i, h, hs => by rw [show i = 0 by omega]; exact hs
 | n + 1, i, h, hs => by
  by_cases e : i = n + 1
  ·rw [e]; exact hs
  ·exact gU_le (by omega) hs.1
def gsm (f : Nat → Co) (g : List Nat) : Nat → Int
 | 0 => 0
 | k + 1 => gsm f g k + (f (g.getD k 0)).d
def gOK (f : Nat → Co) (g : List Nat) : Prop := gU f g g.length ∧ ((f (g.getD 0 0)).y - gsm f g g.length) % 2 = 0
instance (f : Nat → Co) (g : List Nat) : Decidable (gOK f g) := by unfold gOK; infer_instance
def grU (f : Nat → Co) (G : List (List Nat)) : Nat → Prop
 | 0 => True
 | k + 1 => grU f G k ∧ gOK f (G.getD k [])
instance grU_dec (f : Nat → Co) (G : List (List Nat)) : ∀ n, Decidable (grU f G n)
 | 0 => .isTrue trivial
 | n + 1 => by unfold grU; have := grU_dec f G n; infer_instance
theorem mZE {f : Nat → Co} {G : List (List Nat)} : ∀ {n i : Nat}, i ≤ n → grU f G n → grU f G i
 | 0, i, h, hs => by rw [show i = 0 by omega]; exact hs
 | n + 1, i, h, hs => by
  by_cases e : i = n + 1
  ·rw [e]; exact hs
  ·exact mZE (by omega) hs.1
def fusP (p : Int) (f : Nat → Co) (n : Nat) : Prop := shP p f n ∧ fuU f n ∧ grU f (comp f n) (comp f n).length
instance (p : Int) (f : Nat → Co) (n : Nat) : Decidable (fusP p f n) := by unfold fusP; infer_instance
theorem gZL (b j : Nat → Bool) : ∀ i, ∀ g ∈ (grps b j i).1, g ≠ []
 | 0 => by simp [grps]
 | i + 1 => by
  have h1 := gZL b j i
  rw [grps]
  split
  ·exact h1
  ·split
   ·exact h1
   ·intro g hg
    dsimp only at hg
    split at hg
    ·exact h1 g hg
    ·rename_i hne
     rcases List.mem_append.1 hg with h | h
     ·exact h1 g h
     ·simp at h; subst h; exact hne
theorem fZB {b j : Nat → Bool} {n : Nat} : ∀ g ∈ allG (grps b j n), g ≠ [] := by
 intro g hg
 unfold allG at hg
 split at hg
 ·exact gZL b j n g hg
 ·rename_i hne
  rcases List.mem_append.1 hg with h | h
  ·exact gZL b j n g h
  ·simp at h; subst h; exact hne
theorem jZV {f : Nat → Co} {n : Nat} (hs : shU f n) {g : List Nat} (hg : ∀ k ∈ g, k < n) : ∀ {k : Nat}, k ≤ g.length → 0 ≤ gsm f g k ∧ gsm f g k ≤ (k : Int) * 8
 | 0, _ => by simp [gsm]
 | k + 1, h => by
  have ih := jZV hs hg (k := k) (by omega)
  have hk : g.getD k 0 ∈ g := by simp [List.getD, List.getElem?_eq_getElem (show k < g.length by omega)]
  have := aZD hs (hg _ hk)
  rw [gsm]
  omega
section
variable (En : Ev)
set_option maxHeartbeats 4000000 in
theorem mZm (p : Int) (f : Nat → Co) (n : Nat) (hn : n ≤ 20) : Fn Tryz.prog En 96 [locP p f n] (ex (.bool (decide (fusP p f n)))) := by
 have C0 := iZO En p f n (by omega)
 unfold locP at *
 by_cases hsh : shP p f n
 ·rw [decide_eq_true hsh] at C0
  have key : ∀ i, i < n → ¬ fuU f (i + 1) → ¬ fusP p f n := fun i hi h h' => h (kZa (by omega) h'.2.1)
  have hsU := hsh.2.2
  have hn8 := shU_n hsU
  refine aZb Tryz.func96 rfl Tryz.ntmps96 rfl ?_
  intro w0 h0
  refine js (jr (jB jj jj jj (ja jj (jn (js (js (jr (jL jj jj jj (jS (aZa C0 ⟨jj, trivial⟩) (jS (bNo jj) (jn (jf jj (jp (js (js (jr (jF jj jj (jl jj jj jj (jE jj (jm jj (jn (jb ?_))))))))))))))))))))))
  refine WpD.loop (α := {i : Nat // i ≤ n ∧ fuU f i}) (fun i => ⟨[(1, .ptr 1 0), (14, .one (slc 5 (rows (ccs f) n) n)), (15, .one (ex (.int .i64 (n : Int)))), (16, .one (ex (.int .i64 (i.1 : Int))))], [(1, [ex (.int .i64 p), slc 5 (rows (ccs f) n) n])]⟩) (fun i => n - i.1) ⟨0, Nat.zero_le _, trivial⟩ ?_ ?_
  ·refine Sub.mk ?_ ?_ <;> repeat (first | exact trivial | refine jV jj ?_ | refine jy jj ?_ | refine jw jj (js0 jj) ?_)
  rintro ⟨i, hi, hs⟩
  dsimp only at hi hs ⊢
  by_cases hlt : i < n
  ·have hq : ((rows (ccs f) n).drop (i * 5)).take 5 = [ex (.int .i64 (f i).e), ex (.int .i64 (f i).d), ex (.int .i64 (f i).s), ex (.bool (f i).o), ex (.int .i64 (f i).y)] := aZo (aZp f) hlt
   have hb := aZD hsU hlt
   have w1 := wS i (by omega)
   have wm : (f i).d.tmod 2 = (f i).d % 2 := Int.tmod_eq_emod_of_nonneg (by omega)
   by_cases s1 : (f i).s = 1
   ·skip
    by_cases y1 : (f i).y < 0
    ·rw [decide_eq_false (key i hlt fun h => by have h := h.2; unfold frow at h; omega)]
     refine js (jr (jS (bLt jj jj) (jn (js (jt jj (jp (js (jb (js (jr (jS (aZc jj jj hlt hq) (jS (aZg jj jj jj) (jA jj jj jj (jP jj jj jj jj (jn (js (js (jr (jF jj jj (jl jj jj jj (jS (bNf jj jj) (jm jj (jk (jk (jk (jQ jj jj (jm jj (jgf jj jj (jgl jj jj jj (jg (bLt jj jj) (jQ jj jj (jm jj (jk (jk (jk (jq jj jj (jn (jt jj (js (jr (ja jj (jn ?_))))))))))))))))))))))))))))))))))))))))))
     refine ji ?_
     exact rtT rfl jj
    by_cases y2 : (f i).y > 7
    ·rw [decide_eq_false (key i hlt fun h => by have h := h.2; unfold frow at h; omega)]
     refine js (jr (jS (bLt jj jj) (jn (js (jt jj (jp (js (jb (js (jr (jS (aZc jj jj hlt hq) (jS (aZg jj jj jj) (jA jj jj jj (jP jj jj jj jj (jn (js (js (jr (jF jj jj (jl jj jj jj (jS (bNf jj jj) (jm jj (jk (jk (jk (jQ jj jj (jm jj (jgf jj jj (jgl jj jj jj (jg (bLf jj jj) (jQ jj jj (jm jj (jgf jj jj (jgl jj jj jj (jg (bGt jj jj) (jQ jj jj (jn (jt jj (js (jr (ja jj (jn ?_))))))))))))))))))))))))))))))))))))))))))
     refine ji ?_
     exact rtT rfl jj
    cases ho : (f i).o with
    | true =>
     rw [ho] at hq
     have hrow : frow (f i) := ⟨by omega, by omega, by omega, fun h => by rw [ho] at h; cases h⟩
     refine js (jr (jS (bLt jj jj) (jn (js (jt jj (jp (js (jb (js (jr (jS (aZc jj jj hlt hq) (jS (aZg jj jj jj) (jA jj jj jj (jP jj jj jj jj (jn (js (js (jr (jF jj jj (jl jj jj jj (jS (bNf jj jj) (jm jj (jk (jk (jk (jQ jj jj (jm jj (jgf jj jj (jgl jj jj jj (jg (bLf jj jj) (jQ jj jj (jm jj (jgf jj jj (jgl jj jj jj (jg (bGf jj jj) (jQ jj jj (jn (jf jj (jp (js (jr (jF jj jj (jl jj jj jj (jS (bNo jj) (jm jj (jk (jk (jk (jk (jk (ju (ju (ju (jk (jQ jj jj (jn ?_))))))))))))))))))))))))))))))))))))))))))))))))))))))))
     refine jf jj (jp (jr (jS (bAd jj jj w1) (jm jj (jn ?_)))))
     refine ⟨⟨i + 1, by omega, hs, hrow⟩, ?_, by dsimp only; omega⟩
     refine Sub.mk ?_ ?_ <;> repeat (first | exact trivial | refine jV jj ?_ | refine jy jj ?_ | refine jw jj (js0 jj) ?_)
    | false =>
     rw [ho] at hq
     by_cases p1 : (f i).d % 2 = 0
     ·by_cases p2 : (f i).y = 0
      ·have hrow : frow (f i) := ⟨by omega, by omega, by omega, fun _ => ⟨p1, p2⟩⟩
       refine js (jr (jS (bLt jj jj) (jn (js (jt jj (jp (js (jb (js (jr (jS (aZc jj jj hlt hq) (jS (aZg jj jj jj) (jA jj jj jj (jP jj jj jj jj (jn (js (js (jr (jF jj jj (jl jj jj jj (jS (bNf jj jj) (jm jj (jk (jk (jk (jQ jj jj (jm jj (jgf jj jj (jgl jj jj jj (jg (bLf jj jj) (jQ jj jj (jm jj (jgf jj jj (jgl jj jj jj (jg (bGf jj jj) (jQ jj jj (jn (jf jj (jp (js (jr (jF jj jj (jl jj jj jj (jS (bNo jj) (jm jj (jgf jj jj (jgl jj jj jj (jg (bRe jj jj wm) (jg (bNf jj jj) (jgm jj (jgf jj jj (jgl jj jj jj (jg (bNf jj jj) (jg (aZj jj jj) (jq jj jj (jn ?_))))))))))))))))))))))))))))))))))))))))))))))))))))))))
       refine jf jj (jp (jr (jS (bAd jj jj w1) (jm jj (jn ?_)))))
       refine ⟨⟨i + 1, by omega, hs, hrow⟩, ?_, by dsimp only; omega⟩
       refine Sub.mk ?_ ?_ <;> repeat (first | exact trivial | refine jV jj ?_ | refine jy jj ?_ | refine jw jj (js0 jj) ?_)
      ·rw [decide_eq_false (key i hlt fun h => by have h := h.2; unfold frow at h; exact p2 (h.2.2.2 ho).2)]
       refine js (jr (jS (bLt jj jj) (jn (js (jt jj (jp (js (jb (js (jr (jS (aZc jj jj hlt hq) (jS (aZg jj jj jj) (jA jj jj jj (jP jj jj jj jj (jn (js (js (jr (jF jj jj (jl jj jj jj (jS (bNf jj jj) (jm jj (jk (jk (jk (jQ jj jj (jm jj (jgf jj jj (jgl jj jj jj (jg (bLf jj jj) (jQ jj jj (jm jj (jgf jj jj (jgl jj jj jj (jg (bGf jj jj) (jQ jj jj (jn (jf jj (jp (js (jr (jF jj jj (jl jj jj jj (jS (bNo jj) (jm jj (jgf jj jj (jgl jj jj jj (jg (bRe jj jj wm) (jg (bNf jj jj) (jgm jj (jgf jj jj (jgl jj jj jj (jg (bNt jj jj) (jg (aZj jj jj) (jq jj jj (jn ?_))))))))))))))))))))))))))))))))))))))))))))))))))))))))
       refine jt jj (js (jr (ja jj (jn (ji ?_)))))
       exact rtT rfl jj
     ·rw [decide_eq_false (key i hlt fun h => by have h := h.2; unfold frow at h; exact p1 (h.2.2.2 ho).1)]
      refine js (jr (jS (bLt jj jj) (jn (js (jt jj (jp (js (jb (js (jr (jS (aZc jj jj hlt hq) (jS (aZg jj jj jj) (jA jj jj jj (jP jj jj jj jj (jn (js (js (jr (jF jj jj (jl jj jj jj (jS (bNf jj jj) (jm jj (jk (jk (jk (jQ jj jj (jm jj (jgf jj jj (jgl jj jj jj (jg (bLf jj jj) (jQ jj jj (jm jj (jgf jj jj (jgl jj jj jj (jg (bGf jj jj) (jQ jj jj (jn (jf jj (jp (js (jr (jF jj jj (jl jj jj jj (jS (bNo jj) (jm jj (jgf jj jj (jgl jj jj jj (jg (bRe jj jj wm) (jg (bNt jj jj) (jgm jj (jk (jk (jk (jg (aZn jj jj) (jq jj jj (jn ?_))))))))))))))))))))))))))))))))))))))))))))))))))))))))
      refine jt jj (js (jr (ja jj (jn (ji ?_)))))
      exact rtT rfl jj
   by_cases s2 : (f i).s = -1
   ·skip
    by_cases y1 : (f i).y < 0
    ·rw [decide_eq_false (key i hlt fun h => by have h := h.2; unfold frow at h; omega)]
     refine js (jr (jS (bLt jj jj) (jn (js (jt jj (jp (js (jb (js (jr (jS (aZc jj jj hlt hq) (jS (aZg jj jj jj) (jA jj jj jj (jP jj jj jj jj (jn (js (js (jr (jF jj jj (jl jj jj jj (jS (bNt jj jj) (jm jj (jgf jj jj (jgl jj jj jj (jg (bNf jj jj) (jq jj jj (jm jj (jgf jj jj (jgl jj jj jj (jg (bLt jj jj) (jQ jj jj (jm jj (jk (jk (jk (jq jj jj (jn (jt jj (js (jr (ja jj (jn ?_))))))))))))))))))))))))))))))))))))))))))
     refine ji ?_
     exact rtT rfl jj
    by_cases y2 : (f i).y > 7
    ·rw [decide_eq_false (key i hlt fun h => by have h := h.2; unfold frow at h; omega)]
     refine js (jr (jS (bLt jj jj) (jn (js (jt jj (jp (js (jb (js (jr (jS (aZc jj jj hlt hq) (jS (aZg jj jj jj) (jA jj jj jj (jP jj jj jj jj (jn (js (js (jr (jF jj jj (jl jj jj jj (jS (bNt jj jj) (jm jj (jgf jj jj (jgl jj jj jj (jg (bNf jj jj) (jq jj jj (jm jj (jgf jj jj (jgl jj jj jj (jg (bLf jj jj) (jQ jj jj (jm jj (jgf jj jj (jgl jj jj jj (jg (bGt jj jj) (jQ jj jj (jn (jt jj (js (jr (ja jj (jn ?_))))))))))))))))))))))))))))))))))))))))))
     refine ji ?_
     exact rtT rfl jj
    cases ho : (f i).o with
    | true =>
     rw [ho] at hq
     have hrow : frow (f i) := ⟨by omega, by omega, by omega, fun h => by rw [ho] at h; cases h⟩
     refine js (jr (jS (bLt jj jj) (jn (js (jt jj (jp (js (jb (js (jr (jS (aZc jj jj hlt hq) (jS (aZg jj jj jj) (jA jj jj jj (jP jj jj jj jj (jn (js (js (jr (jF jj jj (jl jj jj jj (jS (bNt jj jj) (jm jj (jgf jj jj (jgl jj jj jj (jg (bNf jj jj) (jq jj jj (jm jj (jgf jj jj (jgl jj jj jj (jg (bLf jj jj) (jQ jj jj (jm jj (jgf jj jj (jgl jj jj jj (jg (bGf jj jj) (jQ jj jj (jn (jf jj (jp (js (jr (jF jj jj (jl jj jj jj (jS (bNo jj) (jm jj (jk (jk (jk (jk (jk (ju (ju (ju (jk (jQ jj jj (jn ?_))))))))))))))))))))))))))))))))))))))))))))))))))))))))
     refine jf jj (jp (jr (jS (bAd jj jj w1) (jm jj (jn ?_)))))
     refine ⟨⟨i + 1, by omega, hs, hrow⟩, ?_, by dsimp only; omega⟩
     refine Sub.mk ?_ ?_ <;> repeat (first | exact trivial | refine jV jj ?_ | refine jy jj ?_ | refine jw jj (js0 jj) ?_)
    | false =>
     rw [ho] at hq
     by_cases p1 : (f i).d % 2 = 0
     ·by_cases p2 : (f i).y = 0
      ·have hrow : frow (f i) := ⟨by omega, by omega, by omega, fun _ => ⟨p1, p2⟩⟩
       refine js (jr (jS (bLt jj jj) (jn (js (jt jj (jp (js (jb (js (jr (jS (aZc jj jj hlt hq) (jS (aZg jj jj jj) (jA jj jj jj (jP jj jj jj jj (jn (js (js (jr (jF jj jj (jl jj jj jj (jS (bNt jj jj) (jm jj (jgf jj jj (jgl jj jj jj (jg (bNf jj jj) (jq jj jj (jm jj (jgf jj jj (jgl jj jj jj (jg (bLf jj jj) (jQ jj jj (jm jj (jgf jj jj (jgl jj jj jj (jg (bGf jj jj) (jQ jj jj (jn (jf jj (jp (js (jr (jF jj jj (jl jj jj jj (jS (bNo jj) (jm jj (jgf jj jj (jgl jj jj jj (jg (bRe jj jj wm) (jg (bNf jj jj) (jgm jj (jgf jj jj (jgl jj jj jj (jg (bNf jj jj) (jg (aZj jj jj) (jq jj jj (jn ?_))))))))))))))))))))))))))))))))))))))))))))))))))))))))
       refine jf jj (jp (jr (jS (bAd jj jj w1) (jm jj (jn ?_)))))
       refine ⟨⟨i + 1, by omega, hs, hrow⟩, ?_, by dsimp only; omega⟩
       refine Sub.mk ?_ ?_ <;> repeat (first | exact trivial | refine jV jj ?_ | refine jy jj ?_ | refine jw jj (js0 jj) ?_)
      ·rw [decide_eq_false (key i hlt fun h => by have h := h.2; unfold frow at h; exact p2 (h.2.2.2 ho).2)]
       refine js (jr (jS (bLt jj jj) (jn (js (jt jj (jp (js (jb (js (jr (jS (aZc jj jj hlt hq) (jS (aZg jj jj jj) (jA jj jj jj (jP jj jj jj jj (jn (js (js (jr (jF jj jj (jl jj jj jj (jS (bNt jj jj) (jm jj (jgf jj jj (jgl jj jj jj (jg (bNf jj jj) (jq jj jj (jm jj (jgf jj jj (jgl jj jj jj (jg (bLf jj jj) (jQ jj jj (jm jj (jgf jj jj (jgl jj jj jj (jg (bGf jj jj) (jQ jj jj (jn (jf jj (jp (js (jr (jF jj jj (jl jj jj jj (jS (bNo jj) (jm jj (jgf jj jj (jgl jj jj jj (jg (bRe jj jj wm) (jg (bNf jj jj) (jgm jj (jgf jj jj (jgl jj jj jj (jg (bNt jj jj) (jg (aZj jj jj) (jq jj jj (jn ?_))))))))))))))))))))))))))))))))))))))))))))))))))))))))
       refine jt jj (js (jr (ja jj (jn (ji ?_)))))
       exact rtT rfl jj
     ·rw [decide_eq_false (key i hlt fun h => by have h := h.2; unfold frow at h; exact p1 (h.2.2.2 ho).1)]
      refine js (jr (jS (bLt jj jj) (jn (js (jt jj (jp (js (jb (js (jr (jS (aZc jj jj hlt hq) (jS (aZg jj jj jj) (jA jj jj jj (jP jj jj jj jj (jn (js (js (jr (jF jj jj (jl jj jj jj (jS (bNt jj jj) (jm jj (jgf jj jj (jgl jj jj jj (jg (bNf jj jj) (jq jj jj (jm jj (jgf jj jj (jgl jj jj jj (jg (bLf jj jj) (jQ jj jj (jm jj (jgf jj jj (jgl jj jj jj (jg (bGf jj jj) (jQ jj jj (jn (jf jj (jp (js (jr (jF jj jj (jl jj jj jj (jS (bNo jj) (jm jj (jgf jj jj (jgl jj jj jj (jg (bRe jj jj wm) (jg (bNt jj jj) (jgm jj (jk (jk (jk (jg (aZn jj jj) (jq jj jj (jn ?_))))))))))))))))))))))))))))))))))))))))))))))))))))))))
      refine jt jj (js (jr (ja jj (jn (ji ?_)))))
      exact rtT rfl jj
   rw [decide_eq_false (key i hlt fun h => by have h := h.2; unfold frow at h; omega)]
   refine js (jr (jS (bLt jj jj) (jn (js (jt jj (jp (js (jb (js (jr (jS (aZc jj jj hlt hq) (jS (aZg jj jj jj) (jA jj jj jj (jP jj jj jj jj (jn (js (js (jr (jF jj jj (jl jj jj jj (jS (bNt jj jj) (jm jj (jgf jj jj (jgl jj jj jj (jg (bNt jj jj) (jq jj jj (jm jj (jk (jk (jk (jq jj jj (jm jj (jk (jk (jk (jq jj jj (jn (jt jj (js (jr (ja jj (jn ?_))))))))))))))))))))))))))))))))))))))))))
   refine ji ?_
   exact rtT rfl jj
  ·have hin : i = n := by omega
   subst hin
   have hShp : Shp f i := ⟨hn, fun k hk => (aZD hsU hk).1, fun k hk => (aZD hsU hk).2.1⟩
   have C1 := iZQ En p f i hShp
   have hGl : (comp f i).length ≤ i := (bZ2 _ _ _).1
   have hGi : ∀ g ∈ comp f i, g.length ≤ i := fun g hg => bZY g hg
   have hGt : ∀ g ∈ comp f i, ∀ k ∈ g, k < i := fun g hg => bZX g hg
   have hGn : ∀ g ∈ comp f i, g ≠ [] := fun g hg => fZB g hg
   unfold locP at C1
   unfold fusP
   have key2 : ∀ k, k < (comp f i).length → ¬ grU f (comp f i) (k + 1) → ¬ (shP p f i ∧ fuU f i ∧ grU f (comp f i) (comp f i).length) := fun k hk h h' => h (mZE (by omega) h'.2.2)
   have fin : grU f (comp f i) (comp f i).length → (shP p f i ∧ fuU f i ∧ grU f (comp f i) (comp f i).length) := fun h => ⟨hsh, hs, h⟩
   unfold bZl at C1
   refine js (jr (jS (bLf jj jj) (jn (js (jf jj (je (js (js (jr (jL jj jj jj (jS (aZa C1 ⟨jj, trivial⟩) (jE jj (jm jj (jn (jb ?_)))))))))))))))
   refine WpD.loop (α := {k : Nat // k ≤ (comp f i).length ∧ grU f (comp f i) k}) (fun k => ⟨[(1, .ptr 1 0), (54, .one (slc 1 ((comp f i).map gP) (comp f i).length)), (55, .one (ex (.int .i64 ((comp f i).length : Int)))), (56, .one (ex (.int .i64 (k.1 : Int))))], [(1, [ex (.int .i64 p), slc 5 (rows (ccs f) i) i])]⟩) (fun k => (comp f i).length - k.1) ⟨0, Nat.zero_le _, trivial⟩ ?_ ?_
   ·refine Sub.mk ?_ ?_ <;> repeat (first | exact trivial | refine jV jj ?_ | refine jy jj ?_ | refine jw jj (js0 jj) ?_)
   rintro ⟨k, hk, hgr⟩
   dsimp only at hk hgr ⊢
   by_cases hlk : k < (comp f i).length
   ·have hqG := dZo hlk
    have hmem := gmem [] hlk
    have w2 := wS k (by omega)
    have n1 := hGi _ hmem
    have n2 := hGt _ hmem
    have n3 := hGn _ hmem
    have key3 : ¬ gOK f ((comp f i).getD k []) → ¬ (shP p f i ∧ fuU f i ∧ grU f (comp f i) (comp f i).length) := fun h => key2 k hlk fun h' => h h'.2
    have fin3 : gOK f ((comp f i).getD k []) → grU f (comp f i) (k + 1) := fun h => ⟨hgr, h⟩
    generalize (comp f i).getD k [] = g at *
    have hg0 : 0 < g.length := by cases g with | nil => exact absurd rfl n3 | cons => simp
    unfold gP at hqG
    refine js (jr (jS (bLt jj jj) (jn (js (jt jj (jp (js (jb (js (jr (jS (aZc jj jj hlk hqG) (jS (aZf jj jj) (ja jj (jn (js (jr (ja jj (jn (js (js (jr (jm jj (jE jj (jm jj (jn (jb ?_))))))))))))))))))))))))))
    refine WpD.loop (α := {j : Nat // j ≤ g.length ∧ gU f g j}) (fun j => ⟨[(1, .ptr 1 0), (6, .one (slc 1 (ixP g) g.length)), (7, .one (ex (.int .i64 (gsm f g j.1)))), (54, .one (slc 1 ((comp f i).map gP) (comp f i).length)), (55, .one (ex (.int .i64 ((comp f i).length : Int)))), (56, .one (ex (.int .i64 (k : Int)))), (60, .one (slc 1 (ixP g) g.length)), (61, .one (ex (.int .i64 (g.length : Int)))), (62, .one (ex (.int .i64 (j.1 : Int))))], [(1, [ex (.int .i64 p), slc 5 (rows (ccs f) i) i])]⟩) (fun j => g.length - j.1) ⟨0, Nat.zero_le _, trivial⟩ ?_ ?_
    ·refine Sub.mk ?_ ?_ <;> repeat (first | exact trivial | refine jV jj ?_ | refine jy jj ?_ | refine jw jj (js0 jj) ?_)
    rintro ⟨j, hj, hgu⟩
    dsimp only at hj hgu ⊢
    obtain ⟨m1, m2⟩ := jZV hsU n2 hj
    by_cases hlj : j < g.length
    ·have hqi := bZy hlj
     have hm2 := gmem 0 hlj
     have hx := n2 _ hm2
     have hq : ((rows (ccs f) i).drop (g.getD j 0 * 5)).take 5 = coc (f (g.getD j 0)) := aZo (aZp f) hx
     have hb := aZD hsU hx
     have w3 : IntKind.i64.wrap (gsm f g j + (f (g.getD j 0)).d) = gsm f g (j + 1) := w64 (by omega) (by omega)
     have w4 := wS j (by omega)
     have gstep : (0 < j → (f (g.getD j 0)).y = 0) → gU f g (j + 1) := fun h => ⟨hgu, h⟩
     have gfail : ¬ (0 < j → (f (g.getD j 0)).y = 0) → ¬ gU f g g.length := fun h h' => h (gU_le (i := j + 1) (by omega) h').2
     generalize g.getD j 0 = x at *
     by_cases j0 : j = 0
     ·have j0' : ¬ ((j : Int) > 0) := by omega
      refine js (jr (jS (bLt jj jj) (jn (js (jt jj (jp (js (jb (js (jr (jm jj (jS (aZc jj jj hlj hqi) (jS (aZf jj jj) (ja jj (ja jj (jn (js (jr (jm jj (jF jj jj (jl jj jj jj (jm jj (jS (aZc jj jj hx hq) (jS (aZh jj jj) (jS (aZf jj jj) (jS (bAd jj jj w3) (ja jj (jn (js (jr (jm jj (jS (bGf jj jj) (jm jj (jk (jk (jk (jk (jk (jk (jk (jQ jj jj (jn ?_))))))))))))))))))))))))))))))))))))))))))
      refine jf jj (jp (jr (jS (bAd jj jj w4) (jm jj (jn ?_)))))
      refine ⟨⟨j + 1, by omega, gstep (by omega)⟩, ?_, by dsimp only; omega⟩
      refine Sub.mk ?_ ?_ <;> repeat (first | exact trivial | refine jV jj ?_ | refine jy jj ?_ | refine jw jj (js0 jj) ?_)
     ·have j0' : (j : Int) > 0 := by omega
      by_cases y0 : (f x).y = 0
      ·refine js (jr (jS (bLt jj jj) (jn (js (jt jj (jp (js (jb (js (jr (jm jj (jS (aZc jj jj hlj hqi) (jS (aZf jj jj) (ja jj (ja jj (jn (js (jr (jm jj (jF jj jj (jl jj jj jj (jm jj (jS (aZc jj jj hx hq) (jS (aZh jj jj) (jS (aZf jj jj) (jS (bAd jj jj w3) (ja jj (jn (js (jr (jm jj (jS (bGt jj jj) (jm jj (jgf jj jj (jgl jj jj jj (jgm jj (jg (aZc jj jj hx hq) (jg (aZh jj jj) (jg (aZf jj jj) (jg (bNf jj jj) (jq jj jj (jn ?_))))))))))))))))))))))))))))))))))))))))))
       refine jf jj (jp (jr (jS (bAd jj jj w4) (jm jj (jn ?_)))))
       refine ⟨⟨j + 1, by omega, gstep (fun _ => y0)⟩, ?_, by dsimp only; omega⟩
       refine Sub.mk ?_ ?_ <;> repeat (first | exact trivial | refine jV jj ?_ | refine jy jj ?_ | refine jw jj (js0 jj) ?_)
      ·rw [decide_eq_false (key3 fun h => gfail (fun h' => y0 (h' (by omega))) h.1)]
       refine js (jr (jS (bLt jj jj) (jn (js (jt jj (jp (js (jb (js (jr (jm jj (jS (aZc jj jj hlj hqi) (jS (aZf jj jj) (ja jj (ja jj (jn (js (jr (jm jj (jF jj jj (jl jj jj jj (jm jj (jS (aZc jj jj hx hq) (jS (aZh jj jj) (jS (aZf jj jj) (jS (bAd jj jj w3) (ja jj (jn (js (jr (jm jj (jS (bGt jj jj) (jm jj (jgf jj jj (jgl jj jj jj (jgm jj (jg (aZc jj jj hx hq) (jg (aZh jj jj) (jg (aZf jj jj) (jg (bNt jj jj) (jq jj jj (jn ?_))))))))))))))))))))))))))))))))))))))))))
       refine jt jj (js (jr (ja jj (jn (ji ?_)))))
       exact rtT rfl jj
    ·have hjn : j = g.length := by omega
     subst hjn
     have hqi := bZy hg0
     have hm2 := gmem 0 hg0
     have hx := n2 _ hm2
     have hq : ((rows (ccs f) i).drop (g.getD 0 0 * 5)).take 5 = coc (f (g.getD 0 0)) := aZo (aZp f) hx
     have hfr := bZ7 hs hx
     have hfr1 := hfr.2.1
     have hfr2 := hfr.2.2.1
     have w5 : IntKind.i64.wrap ((f (g.getD 0 0)).y - gsm f g g.length) = (f (g.getD 0 0)).y - gsm f g g.length := w64 (by omega) (by omega)
     by_cases par : ((f (g.getD 0 0)).y - gsm f g g.length) % 2 = 0
     ·have hok : gOK f g := ⟨hgu, par⟩
      have hm : (((f (g.getD 0 0)).y - gsm f g g.length).tmod 2 != 0) = false := by rw [tm2]; exact decide_eq_false (fun h => h par)
      generalize g.getD 0 0 = x at *
      refine js (jr (jS (bLf jj jj) (jn (js (jf jj (je (js (jr (jF jj jj (jl jj jj jj (jm jj (jS (aZc (i := 0) jj jj hg0 hqi) (jS (aZf jj jj) (jS (aZc jj jj hx hq) (jS (aZh jj jj) (jS (aZf jj jj) (jm jj (jS (bSu jj jj w5) (jS (aZu jj jj (fun w => bZn w _ _ _ _ _ _ (by first | decide | omega | assumption))) (jS (aZd jj jj (fun w => bZs w _ _ _ _ _ _) (aZm hm)) (jn (jf jj (jp (jr (jS (bAd jj jj w2) (jm jj (jn ?_)))))))))))))))))))))))))))
      refine ⟨⟨k + 1, by omega, fin3 hok⟩, ?_, by dsimp only; omega⟩
      refine Sub.mk ?_ ?_ <;> repeat (first | exact trivial | refine jV jj ?_ | refine jy jj ?_ | refine jw jj (js0 jj) ?_)
     ·have hm : (((f (g.getD 0 0)).y - gsm f g g.length).tmod 2 != 0) = true := by rw [tm2]; exact decide_eq_true par
      rw [decide_eq_false (key3 fun h => par h.2)]
      generalize g.getD 0 0 = x at *
      refine js (jr (jS (bLf jj jj) (jn (js (jf jj (je (js (jr (jF jj jj (jl jj jj jj (jm jj (jS (aZc (i := 0) jj jj hg0 hqi) (jS (aZf jj jj) (jS (aZc jj jj hx hq) (jS (aZh jj jj) (jS (aZf jj jj) (jm jj (jS (bSu jj jj w5) (jS (aZu jj jj (fun w => bZn w _ _ _ _ _ _ (by first | decide | omega | assumption))) (jS (aZd jj jj (fun w => bZs w _ _ _ _ _ _) (aZm hm)) (jn (jt jj (js (jr (ja jj (jn (ji ?_)))))))))))))))))))))))))))
      exact rtT rfl jj
   ·have hkn : k = (comp f i).length := by omega
    subst hkn
    rw [decide_eq_true (fin hgr)]
    refine js (jr (jS (bLf jj jj) (jn (js (jf jj (je (js (jr (ja jj (jn (ji ?_)))))))))))
    exact rtT rfl jj
 ·rw [decide_eq_false hsh] at C0
  rw [decide_eq_false (fun h : fusP p f n => hsh h.1)]
  refine aZb Tryz.func96 rfl Tryz.ntmps96 rfl ?_
  intro w0 h0
  refine js (jr (jB jj jj jj (ja jj (jn (js (js (jr (jL jj jj jj (jS (aZa C0 ⟨jj, trivial⟩) (jS (bNo jj) (jn (jt jj (js (jr (ja jj (jn (ji ?_)))))))))))))))))
  exact rtT rfl jj
end
end Go.Proofs.YtdieokoenhncfaaGreatDoor

/- Fused symbols: the reference's. (With LT.skipU.) -/
import Derived.Test.YtdieokoenhncfaaGreatDoorMem
import Derived.Test.YtdieokoenhncfaaGreatDoorTp
import Derived.Test.YtdieokoenhncfaaGreatDoorTs
import Derived.Test.YtdieokoenhncfaaGreatDoorTk
set_option maxRecDepth 3000
namespace Go.Proofs.YtdieokoenhncfaaGreatDoor
open Go.RowKit Limb Num
instance cbody110 : CBody Tryz.prog 110 := ⟨⟨_, Tryz.func110, rfl, by rfl⟩⟩
def rrow (f : Nat → Co) (n i : Nat) : Prop := 0 ≤ (f i).y ∧ (f i).y ≤ 7 ∧ ((f i).o = false → (f i).d % 2 = 0 ∧ (f i).y = 0) ∧ ((f i).o = true → (cof (comp f n) i).getD 0 0 = i ∨ (f i).y = 0)
instance (f : Nat → Co) (n i : Nat) : Decidable (rrow f n i) := by unfold rrow; infer_instance
def rfU (f : Nat → Co) (n : Nat) : Nat → Prop
 | 0 => True
 | i + 1 => rfU f n i ∧ rrow f n i
instance rfU_dec (f : Nat → Co) (m : Nat) : ∀ n, Decidable (rfU f m n)
 | 0 => .isTrue trivial
 | n + 1 => by unfold rfU; have := rfU_dec f m n; infer_instance
theorem dZY {f : Nat → Co} {n : Nat} : ∀ {m : Nat}, rfU f n m ↔ ∀ i, i < m → rrow f n i
 | 0 => by unfold rfU; exact ⟨fun _ k h => absurd h (Nat.not_lt_zero _), fun _ => trivial⟩
 | m + 1 => by
  unfold rfU
  rw [dZY]
  constructor
  ·rintro ⟨a, b⟩ k hk
   rcases Nat.lt_or_ge k m with h | h
   ·exact a k h
   ·rw [show k = m by omega]; exact b
  ·intro h; exact ⟨fun k hk => h k (by omega), h m (by omega)⟩
def pgU (f : Nat → Co) (G : List (List Nat)) : Nat → Prop
 | 0 => True
 | k + 1 => pgU f G k ∧ ((f ((G.getD k []).getD 0 0)).y - gsm f (G.getD k []) (G.getD k []).length) % 2 = 0
instance pgU_dec (f : Nat → Co) (G : List (List Nat)) : ∀ n, Decidable (pgU f G n)
 | 0 => .isTrue trivial
 | n + 1 => by unfold pgU; have := pgU_dec f G n; infer_instance
theorem mZ4 {f : Nat → Co} {G : List (List Nat)} : ∀ {n i : Nat}, i ≤ n → pgU f G n → pgU f G i
 | 0, i, h, hs => by rw [show i = 0 by omega]; exact hs
 | n + 1, i, h, hs => by
  by_cases e : i = n + 1
  ·rw [e]; exact hs
  ·exact mZ4 (by omega) hs.1
theorem jZu {f : Nat → Co} {G : List (List Nat)} : ∀ {m : Nat}, m ≤ G.length → (pgU f G m ↔ ∀ g ∈ G.take m, ((f (g.getD 0 0)).y - gsm f g g.length) % 2 = 0)
 | 0, _ => by unfold pgU; simp
 | m + 1, h => by
  unfold pgU
  rw [jZu (by omega), List.take_succ_eq_append_getElem (by omega)]
  have e : G.getD m [] = G[m]'(by omega) := by simp [List.getD, List.getElem?_eq_getElem (show m < G.length by omega)]
  rw [e]
  constructor
  ·rintro ⟨a, b⟩ g hg
   rcases List.mem_append.1 hg with q | q
   ·exact a g q
   ·simp at q; subst q; exact b
  ·intro q
   exact ⟨fun g hg => q g (List.mem_append_left _ hg), q _ (List.mem_append_right _ (by simp))⟩
def rfP (p : Int) (f : Nat → Co) (n : Nat) : Prop := p = 2 ∧ ordP f n ∧ rfU f n n ∧ pgU f (comp f n) (comp f n).length
instance (p : Int) (f : Nat → Co) (n : Nat) : Decidable (rfP p f n) := by unfold rfP; infer_instance
theorem gZ1 {f : Nat → Co} : ∀ {m : Nat}, sgU f m ↔ ∀ i, i < m → (f i).s = 1 ∨ (f i).s = -1
 | 0 => by unfold sgU; exact ⟨fun _ k h => absurd h (Nat.not_lt_zero _), fun _ => trivial⟩
 | m + 1 => by
  unfold sgU
  rw [gZ1]
  constructor
  ·rintro ⟨a, b⟩ k hk
   rcases Nat.lt_or_ge k m with h | h
   ·exact a k h
   ·rw [show k = m by omega]; exact b
  ·intro h; exact ⟨fun k hk => h k (by omega), h m (by omega)⟩
theorem kZb {f : Nat → Co} : ∀ {m : Nat}, fuU f m ↔ ∀ i, i < m → frow (f i)
 | 0 => by unfold fuU; exact ⟨fun _ k h => absurd h (Nat.not_lt_zero _), fun _ => trivial⟩
 | m + 1 => by
  unfold fuU
  rw [kZb]
  constructor
  ·rintro ⟨a, b⟩ k hk
   rcases Nat.lt_or_ge k m with h | h
   ·exact a k h
   ·rw [show k = m by omega]; exact b
  ·intro h; exact ⟨fun k hk => h k (by omega), h m (by omega)⟩
theorem rfP_iff (p : Int) (f : Nat → Co) (n : Nat) : rfP p f n ↔ fusP p f n := by
 unfold rfP fusP ordP shP
 rw [dZY, kZb, gZ1, jZu (Nat.le_refl _), fZ0 (Nat.le_refl _), List.take_length]
 constructor
 ·rintro ⟨h1, ⟨h2, h3, h4⟩, h5, h6⟩
  refine ⟨⟨h1, h2, h3⟩, fun i hi => ⟨h4 i hi, (h5 i hi).1, (h5 i hi).2.1, (h5 i hi).2.2.1⟩, fun g hg => ⟨hZL.2 fun k hk h0 => ?_, h6 g hg⟩⟩
  have hm := gmem 0 hk
  obtain ⟨a, b⟩ := cZE.1 (List.mem_flatten.2 ⟨g, hg, hm⟩)
  rcases (h5 _ a).2.2.2 b with q | q
  ·rw [mZS (dZO f n) hg hm] at q
   exact absurd q (mZb (kZ3 (dZO f n) hg) h0 hk)
  ·exact q
 ·rintro ⟨⟨h1, h2, h3⟩, h4, h5⟩
  refine ⟨h1, ⟨h2, h3, fun i hi => (h4 i hi).1⟩, fun i hi => ⟨(h4 i hi).2.1, (h4 i hi).2.2.1, (h4 i hi).2.2.2, fun ho => ?_⟩, fun g hg => (h5 g hg).2⟩
  obtain ⟨a, b⟩ := dZP (cZE.2 ⟨hi, ho⟩)
  have hgu := hZL.1 (h5 _ a).1
  obtain ⟨k, hk, e⟩ := List.getElem_of_mem b
  have e' : (cof (comp f n) i).getD k 0 = i := by simp [List.getD, List.getElem?_eq_getElem hk, e]
  rcases Nat.eq_zero_or_pos k with h0 | h0
  ·subst h0; exact .inl e'
  ·right
   have := hgu k hk h0
   rwa [e'] at this
section
variable (En : Ev)
set_option maxHeartbeats 4000000 in
theorem rfused0 (p : Int) (f : Nat → Co) (n : Nat) (hn : n ≤ 20) : Fn Tryz.prog En 110 [locP p f n] (ex (.bool (decide (rfP p f n)))) := by
 have C0 := gZ5 En f n (by omega)
 unfold locP at *
 by_cases hp : p = 2
 ·by_cases hor : ordP f n
  ·rw [decide_eq_true hor] at C0
   have hsU := hor.2.1
   have H : Shp f n := ⟨hn, fun k hk => (aZD hsU hk).1, fun k hk => (aZD hsU hk).2.1⟩
   have key : ∀ i, i < n → ¬ rrow f n i → ¬ rfP p f n := fun i hi h h' => h (dZY.1 h'.2.2.1 i hi)
   have CP := fun i => fZl En f n i H
   have C2 := hZo En f n H
   unfold gP at CP
   unfold bZl at C2
   have hgi : ∀ g ∈ comp f n, g.length ≤ n := fun g hg => bZY g hg
   have hGl : (comp f n).length ≤ n := (bZ2 _ _ _).1
   have hGt : ∀ g ∈ comp f n, ∀ k ∈ g, k < n := fun g hg => bZX g hg
   have hGn : ∀ g ∈ comp f n, g ≠ [] := fZ8
   refine aZb Tryz.func110 rfl Tryz.ntmps110 rfl ?_
   intro w0 h0
   refine js (jr (jB jj jj jj (ja jj (jn (js (js (jr (jF jj jj (jl jj jj jj (jS (bNf jj jj) (jm jj (jgf jj jj (jgl jj jj jj (jg (aZa C0 ⟨jj, trivial⟩) (jg (bNo jj) (jQ jj jj (jn (jf jj (jp (js (js (jr (jF jj jj (jl jj jj jj (jE jj (jm jj (jn (jb ?_))))))))))))))))))))))))))))
   refine WpD.loop (α := {i : Nat // i ≤ n ∧ rfU f n i}) (fun i => ⟨[(1, .ptr 1 0), (20, .one (slc 5 (rows (ccs f) n) n)), (21, .one (ex (.int .i64 (n : Int)))), (22, .one (ex (.int .i64 (i.1 : Int))))], [(1, [ex (.int .i64 p), slc 5 (rows (ccs f) n) n])]⟩) (fun i => n - i.1) ⟨0, Nat.zero_le _, trivial⟩ ?_ ?_
   ·refine Sub.mk ?_ ?_ <;> repeat (first | exact trivial | refine jV jj ?_ | refine jy jj ?_ | refine jw jj (js0 jj) ?_)
   rintro ⟨i, hi, hs⟩
   dsimp only at hi hs ⊢
   by_cases hlt : i < n
   ·have hq : ((rows (ccs f) n).drop (i * 5)).take 5 = [ex (.int .i64 (f i).e), ex (.int .i64 (f i).d), ex (.int .i64 (f i).s), ex (.bool (f i).o), ex (.int .i64 (f i).y)] := aZo (aZp f) hlt
    have hb := aZD hsU hlt
    have w1 := wS i (by omega)
    have wm : (f i).d.tmod 2 = (f i).d % 2 := Int.tmod_eq_emod_of_nonneg (by omega)
    by_cases y1 : (f i).y < 0
    ·rw [decide_eq_false (key i hlt fun h => by have h := h.1; omega)]
     refine js (jr (jS (bLt jj jj) (jn (js (jt jj (jp (js (jb (js (jr (jm jj (jS (aZc jj jj hlt hq) (jS (aZg jj jj jj) (jA jj jj jj (ja jj (jP jj jj jj jj (jn (js (js (jr (jF jj jj (jl jj jj jj (jS (bLt jj jj) (jm jj (jk (jk (jk (jq jj jj (jm jj (jk (jk (jk (jk (ju (ju (ju (ju (ju (ju (ju (ju (ju (jk (jq jj jj (jn ?_)))))))))))))))))))))))))))))))))))))))))))))
     refine jt jj (js (jr (ja jj (jn (ji ?_)))))
     exact rtT rfl jj
    by_cases y2 : (f i).y > 7
    ·rw [decide_eq_false (key i hlt fun h => by have h := h.2.1; omega)]
     refine js (jr (jS (bLt jj jj) (jn (js (jt jj (jp (js (jb (js (jr (jm jj (jS (aZc jj jj hlt hq) (jS (aZg jj jj jj) (jA jj jj jj (ja jj (jP jj jj jj jj (jn (js (js (jr (jF jj jj (jl jj jj jj (jS (bLf jj jj) (jm jj (jgf jj jj (jgl jj jj jj (jg (bGt jj jj) (jQ jj jj (jm jj (jk (jk (jk (jk (ju (ju (ju (ju (ju (ju (ju (ju (ju (jk (jq jj jj (jn ?_)))))))))))))))))))))))))))))))))))))))))))))
     refine jt jj (js (jr (ja jj (jn (ji ?_)))))
     exact rtT rfl jj
    cases ho : (f i).o with
    | false =>
     rw [ho] at hq
     by_cases p1 : (f i).d % 2 = 0
     ·by_cases p2 : (f i).y = 0
      ·have hrow : rrow f n i := ⟨by omega, by omega, fun _ => ⟨p1, p2⟩, fun h => by rw [ho] at h; exact Bool.noConfusion h⟩
       refine js (jr (jS (bLt jj jj) (jn (js (jt jj (jp (js (jb (js (jr (jm jj (jS (aZc jj jj hlt hq) (jS (aZg jj jj jj) (jA jj jj jj (ja jj (jP jj jj jj jj (jn (js (js (jr (jF jj jj (jl jj jj jj (jS (bLf jj jj) (jm jj (jgf jj jj (jgl jj jj jj (jg (bGf jj jj) (jQ jj jj (jm jj (jgf jj jj (jgl jj jj jj (jg (bNo jj) (jgm jj (jgf jj jj (jgl jj jj jj (jg (bRe jj jj wm) (jg (bNf jj jj) (jgm jj (jgf jj jj (jgl jj jj jj (jg (bNf jj jj) (jg (aZj jj jj) (jg (aZn jj jj) (jQ jj jj (jn ?_)))))))))))))))))))))))))))))))))))))))))))))
       refine jf jj (jp (js (jr (jF jj jj (jl jj jj jj (jm jj (jk (jk (jk (jk (jk (jk (jk (jk (jQ jj jj (jm jj (jk (jk (jk (jQ jj jj (jn (jf jj (jp (jr (jS (bAd jj jj w1) (jm jj (jn ?_)))))))))))))))))))))))))))
       refine ⟨⟨i + 1, by omega, hs, hrow⟩, ?_, by dsimp only; omega⟩
       refine Sub.mk ?_ ?_ <;> repeat (first | exact trivial | refine jV jj ?_ | refine jy jj ?_ | refine jw jj (js0 jj) ?_)
      ·rw [decide_eq_false (key i hlt fun h => p2 (h.2.2.1 ho).2)]
       refine js (jr (jS (bLt jj jj) (jn (js (jt jj (jp (js (jb (js (jr (jm jj (jS (aZc jj jj hlt hq) (jS (aZg jj jj jj) (jA jj jj jj (ja jj (jP jj jj jj jj (jn (js (js (jr (jF jj jj (jl jj jj jj (jS (bLf jj jj) (jm jj (jgf jj jj (jgl jj jj jj (jg (bGf jj jj) (jQ jj jj (jm jj (jgf jj jj (jgl jj jj jj (jg (bNo jj) (jgm jj (jgf jj jj (jgl jj jj jj (jg (bRe jj jj wm) (jg (bNf jj jj) (jgm jj (jgf jj jj (jgl jj jj jj (jg (bNt jj jj) (jg (aZj jj jj) (jg (aZn jj jj) (jQ jj jj (jn ?_)))))))))))))))))))))))))))))))))))))))))))))
       refine jt jj (js (jr (ja jj (jn (ji ?_)))))
       exact rtT rfl jj
     ·rw [decide_eq_false (key i hlt fun h => p1 (h.2.2.1 ho).1)]
      refine js (jr (jS (bLt jj jj) (jn (js (jt jj (jp (js (jb (js (jr (jm jj (jS (aZc jj jj hlt hq) (jS (aZg jj jj jj) (jA jj jj jj (ja jj (jP jj jj jj jj (jn (js (js (jr (jF jj jj (jl jj jj jj (jS (bLf jj jj) (jm jj (jgf jj jj (jgl jj jj jj (jg (bGf jj jj) (jQ jj jj (jm jj (jgf jj jj (jgl jj jj jj (jg (bNo jj) (jgm jj (jgf jj jj (jgl jj jj jj (jg (bRe jj jj wm) (jg (bNt jj jj) (jgm jj (jk (jk (jk (jg (aZn jj jj) (jg (aZn jj jj) (jQ jj jj (jn ?_)))))))))))))))))))))))))))))))))))))))))))))
      refine jt jj (js (jr (ja jj (jn (ji ?_)))))
      exact rtT rfl jj
    | true =>
     rw [ho] at hq
     have C1 := CP i
     obtain ⟨g1, g2⟩ := dZP (cZE.2 ⟨hlt, ho⟩)
     have hg0 : 0 < (cof (comp f n) i).length := List.length_pos_iff.2 (hGn _ g1)
     have hqg := bZy hg0
     have hrow : ((cof (comp f n) i).getD 0 0 = i ∨ (f i).y = 0) → rrow f n i := fun h => ⟨by omega, by omega, fun h' => by rw [ho] at h'; exact Bool.noConfusion h', fun _ => h⟩
     have hfail : ¬ ((cof (comp f n) i).getD 0 0 = i ∨ (f i).y = 0) → ¬ rfP p f n := fun h => key i hlt fun h' => h (h'.2.2.2 ho)
     generalize (cof (comp f n) i).getD 0 0 = z at *
     by_cases hz : z = i
     ·refine js (jr (jS (bLt jj jj) (jn (js (jt jj (jp (js (jb (js (jr (jm jj (jS (aZc jj jj hlt hq) (jS (aZg jj jj jj) (jA jj jj jj (ja jj (jP jj jj jj jj (jn (js (js (jr (jF jj jj (jl jj jj jj (jS (bLf jj jj) (jm jj (jgf jj jj (jgl jj jj jj (jg (bGf jj jj) (jQ jj jj (jm jj (jgf jj jj (jgl jj jj jj (jg (bNo jj) (jgm jj (jk (jk (jk (jk (jk (ju (ju (ju (jk (jg (aZj jj jj) (jQ jj jj (jn ?_)))))))))))))))))))))))))))))))))))))))))))))
      refine jf jj (jp (js (jr (jF jj jj (jl jj jj jj (jm jj (jgf jj jj (jgl jj jj jj (jgm jj (jg (aZa C1 ⟨jj, jj, trivial⟩) (jg (aZc (i := 0) jj jj hg0 hqg) (jg (aZf jj jj) (jgm jj (jg (bNf jj jj) (jq jj jj (jm jj (jk (jk (jk (jQ jj jj (jn (jf jj (jp (jr (jS (bAd jj jj w1) (jm jj (jn ?_)))))))))))))))))))))))))))
      refine ⟨⟨i + 1, by omega, hs, hrow (.inl hz)⟩, ?_, by dsimp only; omega⟩
      refine Sub.mk ?_ ?_ <;> repeat (first | exact trivial | refine jV jj ?_ | refine jy jj ?_ | refine jw jj (js0 jj) ?_)
     ·have hz' : ((z : Nat) : Int) ≠ (i : Int) := by omega
      by_cases y0 : (f i).y = 0
      ·refine js (jr (jS (bLt jj jj) (jn (js (jt jj (jp (js (jb (js (jr (jm jj (jS (aZc jj jj hlt hq) (jS (aZg jj jj jj) (jA jj jj jj (ja jj (jP jj jj jj jj (jn (js (js (jr (jF jj jj (jl jj jj jj (jS (bLf jj jj) (jm jj (jgf jj jj (jgl jj jj jj (jg (bGf jj jj) (jQ jj jj (jm jj (jgf jj jj (jgl jj jj jj (jg (bNo jj) (jgm jj (jk (jk (jk (jk (jk (ju (ju (ju (jk (jg (aZj jj jj) (jQ jj jj (jn ?_)))))))))))))))))))))))))))))))))))))))))))))
       refine jf jj (jp (js (jr (jF jj jj (jl jj jj jj (jm jj (jgf jj jj (jgl jj jj jj (jgm jj (jg (aZa C1 ⟨jj, jj, trivial⟩) (jg (aZc (i := 0) jj jj hg0 hqg) (jg (aZf jj jj) (jgm jj (jg (bNt jj jj) (jq jj jj (jm jj (jgf jj jj (jgl jj jj jj (jg (bNf jj jj) (jq jj jj (jn (jf jj (jp (jr (jS (bAd jj jj w1) (jm jj (jn ?_)))))))))))))))))))))))))))
       refine ⟨⟨i + 1, by omega, hs, hrow (.inr y0)⟩, ?_, by dsimp only; omega⟩
       refine Sub.mk ?_ ?_ <;> repeat (first | exact trivial | refine jV jj ?_ | refine jy jj ?_ | refine jw jj (js0 jj) ?_)
      ·rw [decide_eq_false (hfail (fun h => h.elim hz y0))]
       refine js (jr (jS (bLt jj jj) (jn (js (jt jj (jp (js (jb (js (jr (jm jj (jS (aZc jj jj hlt hq) (jS (aZg jj jj jj) (jA jj jj jj (ja jj (jP jj jj jj jj (jn (js (js (jr (jF jj jj (jl jj jj jj (jS (bLf jj jj) (jm jj (jgf jj jj (jgl jj jj jj (jg (bGf jj jj) (jQ jj jj (jm jj (jgf jj jj (jgl jj jj jj (jg (bNo jj) (jgm jj (jk (jk (jk (jk (jk (ju (ju (ju (jk (jg (aZj jj jj) (jQ jj jj (jn ?_)))))))))))))))))))))))))))))))))))))))))))))
       refine jf jj (jp (js (jr (jF jj jj (jl jj jj jj (jm jj (jgf jj jj (jgl jj jj jj (jgm jj (jg (aZa C1 ⟨jj, jj, trivial⟩) (jg (aZc (i := 0) jj jj hg0 hqg) (jg (aZf jj jj) (jgm jj (jg (bNt jj jj) (jq jj jj (jm jj (jgf jj jj (jgl jj jj jj (jg (bNt jj jj) (jq jj jj (jn (jt jj (js (jr (ja jj (jn (ji ?_)))))))))))))))))))))))))))
       exact rtT rfl jj
   ·have hin : i = n := by omega
    subst hin
    have hyy : ∀ k, k < i → 0 ≤ (f k).y ∧ (f k).y ≤ 7 := fun k hk => ⟨(dZY.1 hs k hk).1, (dZY.1 hs k hk).2.1⟩
    have key2 : ∀ k, k < (comp f i).length → ¬ pgU f (comp f i) (k + 1) → ¬ rfP p f i := fun k hk h h' => h (mZ4 (by omega) h'.2.2.2)
    have fin : pgU f (comp f i) (comp f i).length → rfP p f i := fun h => ⟨hp, hor, hs, h⟩
    generalize comp f i = G at *
    refine js (jr (jS (bLf jj jj) (jn (js (jf jj (je (js (js (jr (jF jj jj (jl jj jj jj (jS (aZa C2 ⟨jj, trivial⟩) (jE jj (jm jj (jn (jb ?_))))))))))))))))
    refine WpD.loop (α := {k : Nat // k ≤ G.length ∧ pgU f G k}) (fun k => ⟨[(1, .ptr 1 0), (71, .one (slc 1 (G.map gP) G.length)), (72, .one (ex (.int .i64 (G.length : Int)))), (73, .one (ex (.int .i64 (k.1 : Int))))], [(1, [ex (.int .i64 p), slc 5 (rows (ccs f) i) i])]⟩) (fun k => G.length - k.1) ⟨0, Nat.zero_le _, trivial⟩ ?_ ?_
    ·refine Sub.mk ?_ ?_ <;> repeat (first | exact trivial | refine jV jj ?_ | refine jy jj ?_ | refine jw jj (js0 jj) ?_)
    rintro ⟨k, hk, hgr⟩
    dsimp only at hk hgr ⊢
    by_cases hlk : k < G.length
    ·have hqG := dZo hlk
     have hmem := gmem [] hlk
     have w2 := wS k (by omega)
     have n1 := hgi _ hmem
     have n2 := hGt _ hmem
     have n3 := hGn _ hmem
     have key3 : ¬ ((f ((G.getD k []).getD 0 0)).y - gsm f (G.getD k []) (G.getD k []).length) % 2 = 0 → ¬ rfP p f i := fun h => key2 k hlk fun h' => h h'.2
     have fin3 : ((f ((G.getD k []).getD 0 0)).y - gsm f (G.getD k []) (G.getD k []).length) % 2 = 0 → pgU f G (k + 1) := fun h => ⟨hgr, h⟩
     generalize G.getD k [] = g at *
     have hg0 : 0 < g.length := List.length_pos_iff.2 n3
     unfold gP at hqG
     refine js (jr (jS (bLt jj jj) (jn (js (jt jj (jp (js (jb (js (jr (jS (aZc jj jj hlk hqG) (jS (aZf jj jj) (ja jj (jn (js (jr (ja jj (jn (js (js (jr (jm jj (jE jj (jm jj (jn (jb ?_))))))))))))))))))))))))))
     refine WpD.loop (α := {j : Nat // j ≤ g.length}) (fun j => ⟨[(1, .ptr 1 0), (6, .one (slc 1 (ixP g) g.length)), (7, .one (ex (.int .i64 (gsm f g j.1)))), (71, .one (slc 1 (G.map gP) G.length)), (72, .one (ex (.int .i64 (G.length : Int)))), (73, .one (ex (.int .i64 (k : Int)))), (77, .one (slc 1 (ixP g) g.length)), (78, .one (ex (.int .i64 (g.length : Int)))), (79, .one (ex (.int .i64 (j.1 : Int))))], [(1, [ex (.int .i64 p), slc 5 (rows (ccs f) i) i])]⟩) (fun j => g.length - j.1) ⟨0, Nat.zero_le _⟩ ?_ ?_
     ·refine Sub.mk ?_ ?_ <;> repeat (first | exact trivial | refine jV jj ?_ | refine jy jj ?_ | refine jw jj (js0 jj) ?_)
     rintro ⟨j, hj⟩
     dsimp only at hj ⊢
     obtain ⟨m1, m2⟩ := jZV hsU n2 hj
     by_cases hlj : j < g.length
     ·have hqi := bZy hlj
      have hm2 := gmem 0 hlj
      have hx := n2 _ hm2
      have hq : ((rows (ccs f) i).drop (g.getD j 0 * 5)).take 5 = coc (f (g.getD j 0)) := aZo (aZp f) hx
      have hb := aZD hsU hx
      have w3 : IntKind.i64.wrap (gsm f g j + (f (g.getD j 0)).d) = gsm f g (j + 1) := w64 (by omega) (by omega)
      have w4 := wS j (by omega)
      generalize g.getD j 0 = x at *
      refine js (jr (jS (bLt jj jj) (jn (js (jt jj (jp (js (jb (js (jr (jS (aZc jj jj hlj hqi) (jS (aZf jj jj) (ja jj (jn (jr (jm jj (jF jj jj (jl jj jj jj (jm jj (jS (aZc jj jj hx hq) (jS (aZh jj jj) (jS (aZf jj jj) (jS (bAd jj jj w3) (ja jj (jn (jr (jS (bAd jj jj w4) (jm jj (jn ?_)))))))))))))))))))))))))))))
      refine ⟨⟨j + 1, by omega⟩, ?_, by dsimp only; omega⟩
      refine Sub.mk ?_ ?_ <;> repeat (first | exact trivial | refine jV jj ?_ | refine jy jj ?_ | refine jw jj (js0 jj) ?_)
     ·have hjn : j = g.length := by omega
      subst hjn
      have hqi := bZy hg0
      have hm2 := gmem 0 hg0
      have hx := n2 _ hm2
      have hq : ((rows (ccs f) i).drop (g.getD 0 0 * 5)).take 5 = coc (f (g.getD 0 0)) := aZo (aZp f) hx
      obtain ⟨hfr1, hfr2⟩ := hyy _ hx
      have w5 : IntKind.i64.wrap ((f (g.getD 0 0)).y - gsm f g g.length) = (f (g.getD 0 0)).y - gsm f g g.length := w64 (by omega) (by omega)
      by_cases par : ((f (g.getD 0 0)).y - gsm f g g.length) % 2 = 0
      ·have hok := fin3 par
       have hm : (((f (g.getD 0 0)).y - gsm f g g.length).tmod 2 != 0) = false := by rw [tm2]; exact decide_eq_false (fun h => h par)
       generalize g.getD 0 0 = x at *
       refine js (jr (jS (bLf jj jj) (jn (js (jf jj (je (js (jr (jF jj jj (jl jj jj jj (jm jj (jS (aZc (i := 0) jj jj hg0 hqi) (jS (aZf jj jj) (jS (aZc jj jj hx hq) (jS (aZh jj jj) (jS (aZf jj jj) (jm jj (jS (bSu jj jj w5) (jS (aZu jj jj (fun w => bZn w _ _ _ _ _ _ (by first | decide | omega | assumption))) (jS (aZd jj jj (fun w => bZs w _ _ _ _ _ _) (aZm hm)) (jn (jf jj (jp (jr (jS (bAd jj jj w2) (jm jj (jn ?_)))))))))))))))))))))))))))
       refine ⟨⟨k + 1, by omega, hok⟩, ?_, by dsimp only; omega⟩
       refine Sub.mk ?_ ?_ <;> repeat (first | exact trivial | refine jV jj ?_ | refine jy jj ?_ | refine jw jj (js0 jj) ?_)
      ·have hm : (((f (g.getD 0 0)).y - gsm f g g.length).tmod 2 != 0) = true := by rw [tm2]; exact decide_eq_true par
       rw [decide_eq_false (key3 par)]
       generalize g.getD 0 0 = x at *
       refine js (jr (jS (bLf jj jj) (jn (js (jf jj (je (js (jr (jF jj jj (jl jj jj jj (jm jj (jS (aZc (i := 0) jj jj hg0 hqi) (jS (aZf jj jj) (jS (aZc jj jj hx hq) (jS (aZh jj jj) (jS (aZf jj jj) (jm jj (jS (bSu jj jj w5) (jS (aZu jj jj (fun w => bZn w _ _ _ _ _ _ (by first | decide | omega | assumption))) (jS (aZd jj jj (fun w => bZs w _ _ _ _ _ _) (aZm hm)) (jn (jt jj (js (jr (ja jj (jn (ji ?_)))))))))))))))))))))))))))
       exact rtT rfl jj
    ·have hkn : k = G.length := by omega
     subst hkn
     rw [decide_eq_true (fin hgr)]
     refine js (jr (jS (bLf jj jj) (jn (js (jf jj (je (js (jr (ja jj (jn (ji ?_)))))))))))
     exact rtT rfl jj
  ·rw [decide_eq_false hor] at C0
   rw [decide_eq_false (fun h : rfP p f n => hor h.2.1)]
   refine aZb Tryz.func110 rfl Tryz.ntmps110 rfl ?_
   intro w0 h0
   refine js (jr (jB jj jj jj (ja jj (jn (js (js (jr (jF jj jj (jl jj jj jj (jS (bNf jj jj) (jm jj (jgf jj jj (jgl jj jj jj (jg (aZa C0 ⟨jj, trivial⟩) (jg (bNo jj) (jQ jj jj (jn (jt jj (js (jr (ja jj (jn (ji ?_)))))))))))))))))))))))
   exact rtT rfl jj
 ·rw [decide_eq_false (fun h : rfP p f n => hp h.1)]
  refine aZb Tryz.func110 rfl Tryz.ntmps110 rfl ?_
  intro w0 h0
  refine js (jr (jB jj jj jj (ja jj (jn (js (js (jr (jF jj jj (jl jj jj jj (jS (bNt jj jj) (jm jj (jk (jk (jk (jk (jq jj jj (jn (jt jj (js (jr (ja jj (jn (ji ?_)))))))))))))))))))))))
  exact rtT rfl jj
theorem mZ2 (p : Int) (f : Nat → Co) (n : Nat) (hn : n ≤ 20) : Fn Tryz.prog En 110 [locP p f n] (ex (.bool (decide (fusP p f n)))) := by
 have h := rfused0 En p f n hn
 rwa [show decide (rfP p f n) = decide (fusP p f n) from decide_eq_decide.2 (rfP_iff p f n)] at h
end
end Go.Proofs.YtdieokoenhncfaaGreatDoor
/- Legal constituents: the reference's. -/
namespace Go.Proofs.YtdieokoenhncfaaGreatDoor
open Go.RowKit Limb Num
set_option maxHeartbeats 4000000 in
theorem iZs (e d s y : Int) (o : Bool) (w : World) :
  Calls Tryz.prog 109 #[.agg #[.int .i64 e, .int .i64 d, .int .i64 s, .bool o, .int .i64 y]] w fun r w' => r = .returned (.bool (decide (legP ⟨e, d, s, o, y⟩))) ∧ Below w.heap.size w w' := by
 by_cases h1 : e < 0
 ·have HD := Lib.hid (show decide (legP ⟨e, d, s, o, y⟩) = false from decide_eq_false (by unfold legP; dsimp only; omega))
  go_enter Tryz.func109, Tryz.ntmps109
  go_wp2_with fail
  go_ret
  exact ⟨by rw [HD.out]; first | rfl | exact aZe (beq_eq_false_iff_ne.2 (by assumption)) | exact aZe (bne_iff_ne.2 (by assumption)) | exact aZe (Bool.or_eq_false_iff.2 ⟨beq_eq_false_iff_ne.2 (by assumption), beq_eq_false_iff_ne.2 (by assumption)⟩), (Below.refl _ _).alloc (Nat.le_refl _) _⟩
 by_cases h2 : 60 < e
 ·have HD := Lib.hid (show decide (legP ⟨e, d, s, o, y⟩) = false from decide_eq_false (by unfold legP; dsimp only; omega))
  go_enter Tryz.func109, Tryz.ntmps109
  go_wp2_with fail
  go_ret
  exact ⟨by rw [HD.out]; first | rfl | exact aZe (beq_eq_false_iff_ne.2 (by assumption)) | exact aZe (bne_iff_ne.2 (by assumption)) | exact aZe (Bool.or_eq_false_iff.2 ⟨beq_eq_false_iff_ne.2 (by assumption), beq_eq_false_iff_ne.2 (by assumption)⟩), (Below.refl _ _).alloc (Nat.le_refl _) _⟩
 by_cases h3 : d < 1
 ·have HD := Lib.hid (show decide (legP ⟨e, d, s, o, y⟩) = false from decide_eq_false (by unfold legP; dsimp only; omega))
  go_enter Tryz.func109, Tryz.ntmps109
  go_wp2_with fail
  go_ret
  exact ⟨by rw [HD.out]; first | rfl | exact aZe (beq_eq_false_iff_ne.2 (by assumption)) | exact aZe (bne_iff_ne.2 (by assumption)) | exact aZe (Bool.or_eq_false_iff.2 ⟨beq_eq_false_iff_ne.2 (by assumption), beq_eq_false_iff_ne.2 (by assumption)⟩), (Below.refl _ _).alloc (Nat.le_refl _) _⟩
 by_cases h4 : 8 < d
 ·have HD := Lib.hid (show decide (legP ⟨e, d, s, o, y⟩) = false from decide_eq_false (by unfold legP; dsimp only; omega))
  go_enter Tryz.func109, Tryz.ntmps109
  go_wp2_with fail
  go_ret
  exact ⟨by rw [HD.out]; first | rfl | exact aZe (beq_eq_false_iff_ne.2 (by assumption)) | exact aZe (bne_iff_ne.2 (by assumption)) | exact aZe (Bool.or_eq_false_iff.2 ⟨beq_eq_false_iff_ne.2 (by assumption), beq_eq_false_iff_ne.2 (by assumption)⟩), (Below.refl _ _).alloc (Nat.le_refl _) _⟩
 have hs : s = 1 ∨ s = -1 ∨ (s ≠ 1 ∧ s ≠ -1) := by omega
 rcases hs with rfl | rfl | ⟨s1, s2⟩
 ·by_cases h5 : y < 0
  ·have HD := Lib.hid (show decide (legP ⟨e, d, 1, o, y⟩) = false from decide_eq_false (by unfold legP; dsimp only; omega))
   go_enter Tryz.func109, Tryz.ntmps109
   go_wp2_with fail
   go_ret
   exact ⟨by rw [HD.out]; first | rfl | exact aZe (beq_eq_false_iff_ne.2 (by assumption)) | exact aZe (bne_iff_ne.2 (by assumption)) | exact aZe (Bool.or_eq_false_iff.2 ⟨beq_eq_false_iff_ne.2 (by assumption), beq_eq_false_iff_ne.2 (by assumption)⟩), (Below.refl _ _).alloc (Nat.le_refl _) _⟩
  by_cases h6 : 7 < y
  ·have HD := Lib.hid (show decide (legP ⟨e, d, 1, o, y⟩) = false from decide_eq_false (by unfold legP; dsimp only; omega))
   go_enter Tryz.func109, Tryz.ntmps109
   go_wp2_with fail
   go_ret
   exact ⟨by rw [HD.out]; first | rfl | exact aZe (beq_eq_false_iff_ne.2 (by assumption)) | exact aZe (bne_iff_ne.2 (by assumption)) | exact aZe (Bool.or_eq_false_iff.2 ⟨beq_eq_false_iff_ne.2 (by assumption), beq_eq_false_iff_ne.2 (by assumption)⟩), (Below.refl _ _).alloc (Nat.le_refl _) _⟩
  cases o with
  | false =>
   by_cases p : d % 2 = 0
   ·have hp : (d.tmod 2 == 0) = true := by rw [Int.tmod_eq_emod_of_nonneg (by omega), p]; rfl
    by_cases q : y = 0
    ·subst q
     have HD := Lib.hid (show decide (legP ⟨e, d, 1, false, 0⟩) = true from decide_eq_true (by unfold legP; simp <;> omega))
     go_enter Tryz.func109, Tryz.ntmps109
     go_wp2_with fail
     go_ret
     exact ⟨by rw [HD.out]; first | rfl | exact aZe (beq_eq_false_iff_ne.2 (by assumption)) | exact aZe (bne_iff_ne.2 (by assumption)) | exact aZe (Bool.or_eq_false_iff.2 ⟨beq_eq_false_iff_ne.2 (by assumption), beq_eq_false_iff_ne.2 (by assumption)⟩), (Below.refl _ _).alloc (Nat.le_refl _) _⟩
    have HD := Lib.hid (show decide (legP ⟨e, d, 1, false, y⟩) = false from decide_eq_false (by unfold legP; simp <;> omega))
    go_enter Tryz.func109, Tryz.ntmps109
    go_wp2_with fail
    go_ret
    exact ⟨by rw [HD.out]; first | rfl | exact aZe (beq_eq_false_iff_ne.2 (by assumption)) | exact aZe (bne_iff_ne.2 (by assumption)) | exact aZe (Bool.or_eq_false_iff.2 ⟨beq_eq_false_iff_ne.2 (by assumption), beq_eq_false_iff_ne.2 (by assumption)⟩), (Below.refl _ _).alloc (Nat.le_refl _) _⟩
   ·have hp : (d.tmod 2 == 0) = false := by rw [Int.tmod_eq_emod_of_nonneg (by omega)]; exact beq_eq_false_iff_ne.2 p
    have HD := Lib.hid (show decide (legP ⟨e, d, 1, false, y⟩) = false from decide_eq_false (by unfold legP; simp <;> omega))
    go_enter Tryz.func109, Tryz.ntmps109
    go_wp2_with fail
    go_ret
    exact ⟨by rw [HD.out]; first | rfl | exact aZe (beq_eq_false_iff_ne.2 (by assumption)) | exact aZe (bne_iff_ne.2 (by assumption)) | exact aZe (Bool.or_eq_false_iff.2 ⟨beq_eq_false_iff_ne.2 (by assumption), beq_eq_false_iff_ne.2 (by assumption)⟩), (Below.refl _ _).alloc (Nat.le_refl _) _⟩
  | true =>
   by_cases p : (y - d) % 2 = 0
   ·have hp : ((y - d).tmod 2 != 0) = false := by rw [tm2]; exact decide_eq_false (fun h => h p)
    by_cases d1 : d = 1
    ·subst d1
     by_cases y1 : y = 1
     ·subst y1
      have HD := Lib.hid (show decide (legP ⟨e, 1, 1, true, 1⟩) = true from decide_eq_true (by unfold legP; simp <;> omega))
      go_enter Tryz.func109, Tryz.ntmps109
      go_wp2_with fail
      go_ret
      exact ⟨by rw [HD.out]; first | rfl | exact aZe (beq_eq_false_iff_ne.2 (by assumption)) | exact aZe (bne_iff_ne.2 (by assumption)) | exact aZe (Bool.or_eq_false_iff.2 ⟨beq_eq_false_iff_ne.2 (by assumption), beq_eq_false_iff_ne.2 (by assumption)⟩), (Below.refl _ _).alloc (Nat.le_refl _) _⟩
     by_cases y7 : y = 7
     ·subst y7
      have HD := Lib.hid (show decide (legP ⟨e, 1, 1, true, 7⟩) = true from decide_eq_true (by unfold legP; simp <;> omega))
      go_enter Tryz.func109, Tryz.ntmps109
      go_wp2_with fail
      go_ret
      exact ⟨by rw [HD.out]; first | rfl | exact aZe (beq_eq_false_iff_ne.2 (by assumption)) | exact aZe (bne_iff_ne.2 (by assumption)) | exact aZe (Bool.or_eq_false_iff.2 ⟨beq_eq_false_iff_ne.2 (by assumption), beq_eq_false_iff_ne.2 (by assumption)⟩), (Below.refl _ _).alloc (Nat.le_refl _) _⟩
     have HD := Lib.hid (show decide (legP ⟨e, 1, 1, true, y⟩) = false from decide_eq_false (by unfold legP; simp <;> omega))
     go_enter Tryz.func109, Tryz.ntmps109
     go_wp2_with fail
     go_ret
     exact ⟨by rw [HD.out]; first | rfl | exact aZe (beq_eq_false_iff_ne.2 (by assumption)) | exact aZe (bne_iff_ne.2 (by assumption)) | exact aZe (Bool.or_eq_false_iff.2 ⟨beq_eq_false_iff_ne.2 (by assumption), beq_eq_false_iff_ne.2 (by assumption)⟩), (Below.refl _ _).alloc (Nat.le_refl _) _⟩
    by_cases d2 : d = 2
    ·subst d2
     by_cases y4 : y = 4
     ·subst y4
      have HD := Lib.hid (show decide (legP ⟨e, 2, 1, true, 4⟩) = false from decide_eq_false (by unfold legP; simp <;> omega))
      go_enter Tryz.func109, Tryz.ntmps109
      go_wp2_with fail
      go_ret
      exact ⟨by rw [HD.out]; first | rfl | exact aZe (beq_eq_false_iff_ne.2 (by assumption)) | exact aZe (bne_iff_ne.2 (by assumption)) | exact aZe (Bool.or_eq_false_iff.2 ⟨beq_eq_false_iff_ne.2 (by assumption), beq_eq_false_iff_ne.2 (by assumption)⟩), (Below.refl _ _).alloc (Nat.le_refl _) _⟩
     have HD := Lib.hid (show decide (legP ⟨e, 2, 1, true, y⟩) = true from decide_eq_true (by unfold legP; simp <;> omega))
     go_enter Tryz.func109, Tryz.ntmps109
     go_wp2_with fail
     go_ret
     exact ⟨by rw [HD.out]; first | rfl | exact aZe (beq_eq_false_iff_ne.2 (by assumption)) | exact aZe (bne_iff_ne.2 (by assumption)) | exact aZe (Bool.or_eq_false_iff.2 ⟨beq_eq_false_iff_ne.2 (by assumption), beq_eq_false_iff_ne.2 (by assumption)⟩), (Below.refl _ _).alloc (Nat.le_refl _) _⟩
    have HD := Lib.hid (show decide (legP ⟨e, d, 1, true, y⟩) = true from decide_eq_true (by unfold legP; simp <;> omega))
    go_enter Tryz.func109, Tryz.ntmps109
    go_wp2_with fail
    go_ret
    exact ⟨by rw [HD.out]; first | rfl | exact aZe (beq_eq_false_iff_ne.2 (by assumption)) | exact aZe (bne_iff_ne.2 (by assumption)) | exact aZe (Bool.or_eq_false_iff.2 ⟨beq_eq_false_iff_ne.2 (by assumption), beq_eq_false_iff_ne.2 (by assumption)⟩), (Below.refl _ _).alloc (Nat.le_refl _) _⟩
   ·have hp : ((y - d).tmod 2 != 0) = true := by rw [tm2]; exact decide_eq_true p
    have HD := Lib.hid (show decide (legP ⟨e, d, 1, true, y⟩) = false from decide_eq_false (by unfold legP; simp <;> omega))
    go_enter Tryz.func109, Tryz.ntmps109
    go_wp2_with fail
    go_ret
    exact ⟨by rw [HD.out]; first | rfl | exact aZe (beq_eq_false_iff_ne.2 (by assumption)) | exact aZe (bne_iff_ne.2 (by assumption)) | exact aZe (Bool.or_eq_false_iff.2 ⟨beq_eq_false_iff_ne.2 (by assumption), beq_eq_false_iff_ne.2 (by assumption)⟩), (Below.refl _ _).alloc (Nat.le_refl _) _⟩
 ·by_cases h5 : y < 0
  ·have HD := Lib.hid (show decide (legP ⟨e, d, (-1), o, y⟩) = false from decide_eq_false (by unfold legP; dsimp only; omega))
   go_enter Tryz.func109, Tryz.ntmps109
   go_wp2_with fail
   go_ret
   exact ⟨by rw [HD.out]; first | rfl | exact aZe (beq_eq_false_iff_ne.2 (by assumption)) | exact aZe (bne_iff_ne.2 (by assumption)) | exact aZe (Bool.or_eq_false_iff.2 ⟨beq_eq_false_iff_ne.2 (by assumption), beq_eq_false_iff_ne.2 (by assumption)⟩), (Below.refl _ _).alloc (Nat.le_refl _) _⟩
  by_cases h6 : 7 < y
  ·have HD := Lib.hid (show decide (legP ⟨e, d, (-1), o, y⟩) = false from decide_eq_false (by unfold legP; dsimp only; omega))
   go_enter Tryz.func109, Tryz.ntmps109
   go_wp2_with fail
   go_ret
   exact ⟨by rw [HD.out]; first | rfl | exact aZe (beq_eq_false_iff_ne.2 (by assumption)) | exact aZe (bne_iff_ne.2 (by assumption)) | exact aZe (Bool.or_eq_false_iff.2 ⟨beq_eq_false_iff_ne.2 (by assumption), beq_eq_false_iff_ne.2 (by assumption)⟩), (Below.refl _ _).alloc (Nat.le_refl _) _⟩
  cases o with
  | false =>
   by_cases p : d % 2 = 0
   ·have hp : (d.tmod 2 == 0) = true := by rw [Int.tmod_eq_emod_of_nonneg (by omega), p]; rfl
    by_cases q : y = 0
    ·subst q
     have HD := Lib.hid (show decide (legP ⟨e, d, (-1), false, 0⟩) = true from decide_eq_true (by unfold legP; simp <;> omega))
     go_enter Tryz.func109, Tryz.ntmps109
     go_wp2_with fail
     go_ret
     exact ⟨by rw [HD.out]; first | rfl | exact aZe (beq_eq_false_iff_ne.2 (by assumption)) | exact aZe (bne_iff_ne.2 (by assumption)) | exact aZe (Bool.or_eq_false_iff.2 ⟨beq_eq_false_iff_ne.2 (by assumption), beq_eq_false_iff_ne.2 (by assumption)⟩), (Below.refl _ _).alloc (Nat.le_refl _) _⟩
    have HD := Lib.hid (show decide (legP ⟨e, d, (-1), false, y⟩) = false from decide_eq_false (by unfold legP; simp <;> omega))
    go_enter Tryz.func109, Tryz.ntmps109
    go_wp2_with fail
    go_ret
    exact ⟨by rw [HD.out]; first | rfl | exact aZe (beq_eq_false_iff_ne.2 (by assumption)) | exact aZe (bne_iff_ne.2 (by assumption)) | exact aZe (Bool.or_eq_false_iff.2 ⟨beq_eq_false_iff_ne.2 (by assumption), beq_eq_false_iff_ne.2 (by assumption)⟩), (Below.refl _ _).alloc (Nat.le_refl _) _⟩
   ·have hp : (d.tmod 2 == 0) = false := by rw [Int.tmod_eq_emod_of_nonneg (by omega)]; exact beq_eq_false_iff_ne.2 p
    have HD := Lib.hid (show decide (legP ⟨e, d, (-1), false, y⟩) = false from decide_eq_false (by unfold legP; simp <;> omega))
    go_enter Tryz.func109, Tryz.ntmps109
    go_wp2_with fail
    go_ret
    exact ⟨by rw [HD.out]; first | rfl | exact aZe (beq_eq_false_iff_ne.2 (by assumption)) | exact aZe (bne_iff_ne.2 (by assumption)) | exact aZe (Bool.or_eq_false_iff.2 ⟨beq_eq_false_iff_ne.2 (by assumption), beq_eq_false_iff_ne.2 (by assumption)⟩), (Below.refl _ _).alloc (Nat.le_refl _) _⟩
  | true =>
   by_cases p : (y - d) % 2 = 0
   ·have hp : ((y - d).tmod 2 != 0) = false := by rw [tm2]; exact decide_eq_false (fun h => h p)
    by_cases d1 : d = 1
    ·subst d1
     by_cases y1 : y = 3
     ·subst y1
      have HD := Lib.hid (show decide (legP ⟨e, 1, (-1), true, 3⟩) = true from decide_eq_true (by unfold legP; simp <;> omega))
      go_enter Tryz.func109, Tryz.ntmps109
      go_wp2_with fail
      go_ret
      exact ⟨by rw [HD.out]; first | rfl | exact aZe (beq_eq_false_iff_ne.2 (by assumption)) | exact aZe (bne_iff_ne.2 (by assumption)) | exact aZe (Bool.or_eq_false_iff.2 ⟨beq_eq_false_iff_ne.2 (by assumption), beq_eq_false_iff_ne.2 (by assumption)⟩), (Below.refl _ _).alloc (Nat.le_refl _) _⟩
     by_cases y7 : y = 5
     ·subst y7
      have HD := Lib.hid (show decide (legP ⟨e, 1, (-1), true, 5⟩) = true from decide_eq_true (by unfold legP; simp <;> omega))
      go_enter Tryz.func109, Tryz.ntmps109
      go_wp2_with fail
      go_ret
      exact ⟨by rw [HD.out]; first | rfl | exact aZe (beq_eq_false_iff_ne.2 (by assumption)) | exact aZe (bne_iff_ne.2 (by assumption)) | exact aZe (Bool.or_eq_false_iff.2 ⟨beq_eq_false_iff_ne.2 (by assumption), beq_eq_false_iff_ne.2 (by assumption)⟩), (Below.refl _ _).alloc (Nat.le_refl _) _⟩
     have HD := Lib.hid (show decide (legP ⟨e, 1, (-1), true, y⟩) = false from decide_eq_false (by unfold legP; simp <;> omega))
     go_enter Tryz.func109, Tryz.ntmps109
     go_wp2_with fail
     go_ret
     exact ⟨by rw [HD.out]; first | rfl | exact aZe (beq_eq_false_iff_ne.2 (by assumption)) | exact aZe (bne_iff_ne.2 (by assumption)) | exact aZe (Bool.or_eq_false_iff.2 ⟨beq_eq_false_iff_ne.2 (by assumption), beq_eq_false_iff_ne.2 (by assumption)⟩), (Below.refl _ _).alloc (Nat.le_refl _) _⟩
    by_cases d2 : d = 2
    ·subst d2
     by_cases y4 : y = 0
     ·subst y4
      have HD := Lib.hid (show decide (legP ⟨e, 2, (-1), true, 0⟩) = false from decide_eq_false (by unfold legP; simp <;> omega))
      go_enter Tryz.func109, Tryz.ntmps109
      go_wp2_with fail
      go_ret
      exact ⟨by rw [HD.out]; first | rfl | exact aZe (beq_eq_false_iff_ne.2 (by assumption)) | exact aZe (bne_iff_ne.2 (by assumption)) | exact aZe (Bool.or_eq_false_iff.2 ⟨beq_eq_false_iff_ne.2 (by assumption), beq_eq_false_iff_ne.2 (by assumption)⟩), (Below.refl _ _).alloc (Nat.le_refl _) _⟩
     have HD := Lib.hid (show decide (legP ⟨e, 2, (-1), true, y⟩) = true from decide_eq_true (by unfold legP; simp <;> omega))
     go_enter Tryz.func109, Tryz.ntmps109
     go_wp2_with fail
     go_ret
     exact ⟨by rw [HD.out]; first | rfl | exact aZe (beq_eq_false_iff_ne.2 (by assumption)) | exact aZe (bne_iff_ne.2 (by assumption)) | exact aZe (Bool.or_eq_false_iff.2 ⟨beq_eq_false_iff_ne.2 (by assumption), beq_eq_false_iff_ne.2 (by assumption)⟩), (Below.refl _ _).alloc (Nat.le_refl _) _⟩
    have HD := Lib.hid (show decide (legP ⟨e, d, (-1), true, y⟩) = true from decide_eq_true (by unfold legP; simp <;> omega))
    go_enter Tryz.func109, Tryz.ntmps109
    go_wp2_with fail
    go_ret
    exact ⟨by rw [HD.out]; first | rfl | exact aZe (beq_eq_false_iff_ne.2 (by assumption)) | exact aZe (bne_iff_ne.2 (by assumption)) | exact aZe (Bool.or_eq_false_iff.2 ⟨beq_eq_false_iff_ne.2 (by assumption), beq_eq_false_iff_ne.2 (by assumption)⟩), (Below.refl _ _).alloc (Nat.le_refl _) _⟩
   ·have hp : ((y - d).tmod 2 != 0) = true := by rw [tm2]; exact decide_eq_true p
    have HD := Lib.hid (show decide (legP ⟨e, d, (-1), true, y⟩) = false from decide_eq_false (by unfold legP; simp <;> omega))
    go_enter Tryz.func109, Tryz.ntmps109
    go_wp2_with fail
    go_ret
    exact ⟨by rw [HD.out]; first | rfl | exact aZe (beq_eq_false_iff_ne.2 (by assumption)) | exact aZe (bne_iff_ne.2 (by assumption)) | exact aZe (Bool.or_eq_false_iff.2 ⟨beq_eq_false_iff_ne.2 (by assumption), beq_eq_false_iff_ne.2 (by assumption)⟩), (Below.refl _ _).alloc (Nat.le_refl _) _⟩
 ·have HD := Lib.hid (show decide (legP ⟨e, d, s, o, y⟩) = false from decide_eq_false (by unfold legP; dsimp only; omega))
  go_enter Tryz.func109, Tryz.ntmps109
  go_wp2_with fail
  go_ret
  exact ⟨by rw [HD.out]; first | rfl | exact aZe (beq_eq_false_iff_ne.2 (by assumption)) | exact aZe (bne_iff_ne.2 (by assumption)) | exact aZe (Bool.or_eq_false_iff.2 ⟨beq_eq_false_iff_ne.2 (by assumption), beq_eq_false_iff_ne.2 (by assumption)⟩), (Below.refl _ _).alloc (Nat.le_refl _) _⟩
section
variable (En : Ev)
theorem mZ0 (c : Co) : Fn Tryz.prog En 109 [aggP (coc c)] (ex (.bool (decide (legP c)))) := by
 obtain ⟨e, d, s, o, y⟩ := c
 rintro h w vs _ hh hv
 obtain ⟨v, rfl, us, rfl, ha⟩ := hv.one
 match us, ha with
 | [_, _, _, _, _], ⟨rfl, _, rfl, _, rfl, _, rfl, _, rfl, _, _⟩ => exact (iZs e d s y o w).mono fun _ _ ⟨he, hb⟩ => by subst he; exact bZU hh hb rfl
end
end Go.Proofs.YtdieokoenhncfaaGreatDoor

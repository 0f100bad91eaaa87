/- The reference's step and Canonical. (With LT.skipU.) -/
import Derived.Test.YtdieokoenhncfaaGreatDoorMem
import Derived.Test.YtdieokoenhncfaaGreatDoorFu
set_option maxRecDepth 3000
namespace Go.Proofs.YtdieokoenhncfaaGreatDoor
open Go.RowKit Limb Num
def ws (c : Co) (t : Int) : Co := ⟨c.e, c.d, t, c.o, c.y⟩
theorem fZS {g : Nat → Co} {n x : Nat} (h : x < n) (v : Int) : (rows (ccs g) n).set (x * 5 + 2) (ex (.int .i64 v)) = rows (ccs (fun i => if i = x then ws (g x) v else g i)) n := by
 obtain ⟨Lo, Hi, h1, h2, h3⟩ := cZf (aZp g) h
 rw [h3 (ccs (fun i => if i = x then ws (g x) v else g i)) (fun t ht => by unfold ccs; dsimp only; rw [if_neg ht]), h2]
 unfold ccs
 dsimp only
 rw [if_pos rfl, List.set_append_right _ _ (by omega), h1, show x * 5 + 2 - x * 5 = 2 by omega, List.set_append_left _ _ (by simp [coc])]
 rfl
theorem eZI {g : Nat → Co} {n x : Nat} (h : x < n) : (rows (ccs g) n)[x * 5 + 2]? = some (ex (.int .i64 (g x).s)) := by
 have h5 : ((rows (ccs g) n).drop (x * 5)).take 5 = coc (g x) := aZo (aZp g) h
 have h6 : (((rows (ccs g) n).drop (x * 5)).take 5)[2]? = some (ex (.int .i64 (g x).s)) := by rw [h5]; rfl
 rwa [List.getElem?_take_of_lt (by decide), List.getElem?_drop] at h6
theorem eZH {g : Nat → Co} {n x : Nat} (h : x < n) : (rows (ccs g) n)[x * 5 + 4]? = some (ex (.int .i64 (g x).y)) := by
 have h5 : ((rows (ccs g) n).drop (x * 5)).take 5 = coc (g x) := aZo (aZp g) h
 have h6 : (((rows (ccs g) n).drop (x * 5)).take 5)[4]? = some (ex (.int .i64 (g x).y)) := by rw [h5]; rfl
 rwa [List.getElem?_take_of_lt (by decide), List.getElem?_drop] at h6
def tus (g : Nat → Co) (x : Nat) : Nat → Co := fun i => if i = x then ws (g x) (-(g x).s) else g i
def tuy (g : Nat → Co) (x : Nat) : Nat → Co := fun i => if i = x then wy (g x) (((g x).y + 4) % 8) else g i
def stp (f : Nat → Co) (n i : Nat) : Nat → Co :=
 let g := tus (tus f i) (i - 1)
 let p := cof (comp f n) (i - 1)
 let q := cof (comp f n) i
 let g1 := if 0 < p.length then tuy g (p.getD 0 0) else g
 if 0 < q.length ∧ (p.length = 0 ∨ p.getD 0 0 ≠ q.getD 0 0) then tuy g1 (q.getD 0 0) else g1
theorem tus_y (g : Nat → Co) (x i : Nat) : (tus g x i).y = (g i).y := by unfold tus; split <;> (try subst_vars) <;> rfl
theorem hZU {f : Nat → Co} {n i : Nat} : ∀ k ∈ cof (comp f n) i, k < n := fun k hk => by
 rcases eZy (comp f n) i with h | h
 ·rw [h] at hk; cases hk
 ·exact bZX _ h k hk
theorem kZr {f : Nat → Co} {n i : Nat} : (cof (comp f n) i).length ≤ n := by
 rcases eZy (comp f n) i with h | h
 ·rw [h]; exact Nat.zero_le _
 ·exact bZY _ h
section
variable (En : Ev)
set_option maxHeartbeats 4000000 in
theorem rstep (p : Int) (f : Nat → Co) (n i : Nat) (H : Shp f n) (hs : ∀ i, i < n → (f i).s = 1 ∨ (f i).s = -1) (hy : ∀ i, i < n → 0 ≤ (f i).y ∧ (f i).y ≤ 7) (hi : i < n) (h0i : 0 < i) : Fn Tryz.prog En 45 [locP p f n, ex (.int .i64 (i : Int))] (locP p (stp f n i) n) := by
 have hn := H.n20
 have hn0 : 0 < n := by omega
 have hi1 : i - 1 < n := by omega
 have C1 := gZ7 En p f n hn0 hn
 have CP := fZl En f n (i - 1) H
 have CQ := fZl En f n i H
 have w1 : IntKind.i64.wrap ((i : Int) - 1) = ((i - 1 : Nat) : Int) := by rw [w64 (by omega) (by omega)]; omega
 have l1 := fun g : Nat → Co => aZ3 (aZp g) n
 have c2 := eZI (g := f) hi
 have s2 := fZS (g := f) hi (-(f i).s)
 have wn2 : IntKind.i64.wrap (-(f i).s) = -(f i).s := by have := hs i hi; exact w64 (by omega) (by omega)
 rw [show (fun j => if j = i then ws (f i) (-(f i).s) else f j) = tus f i from rfl] at s2
 have hsx : (tus f i (i - 1)).s = 1 ∨ (tus f i (i - 1)).s = -1 := by
  unfold tus
  rw [if_neg (by omega)]
  exact hs _ hi1
 have c3 := eZI (g := tus f i) hi1
 have s3 := fZS (g := tus f i) hi1 (-(tus f i (i - 1)).s)
 have wn3 : IntKind.i64.wrap (-(tus f i (i - 1)).s) = -(tus f i (i - 1)).s := by exact w64 (by omega) (by omega)
 rw [show (fun j => if j = i - 1 then ws (tus f i (i - 1)) (-(tus f i (i - 1)).s) else tus f i j) = tus (tus f i) (i - 1) from rfl] at s3
 have hy1 : ∀ x, x < n → 0 ≤ (tus (tus f i) (i - 1) x).y ∧ (tus (tus f i) (i - 1) x).y ≤ 7 := fun x hx => by rw [tus_y, tus_y]; exact hy x hx
 have hpt := hZU (f := f) (n := n) (i := i - 1)
 have hqt := hZU (f := f) (n := n) (i := i)
 have hpl := kZr (f := f) (n := n) (i := i - 1)
 have hql := kZr (f := f) (n := n) (i := i)
 have k2 : i * 5 + 2 < (rows (ccs f) n).length := by rw [l1]; omega
 have k3 : (i - 1) * 5 + 2 < (rows (ccs (tus f i)) n).length := by rw [l1]; omega
 unfold stp
 dsimp only
 unfold locP gP at *
 generalize cof (comp f n) (i - 1) = P at *
 generalize cof (comp f n) i = Q at *
 generalize tus (tus f i) (i - 1) = g at *
 generalize (tus f i (i - 1)).s = sv2 at *
 generalize tus f i = g0 at *
 refine aZb Tryz.func45 rfl Tryz.ntmps45 rfl ?_
 intro w0 h0
 refine js (jr (jB jj jj jj (jA jj jj jj (jn (js ?_)))))
 repeat (first | apply js | apply jb)
 refine WpD.seqR ?_
 refine WpS.S rfl rfl (aZ2 rfl rfl rfl rfl) rfl ?_
 refine WpS.S rfl rfl (dZV C1 rfl ⟨rfl, trivial⟩ rfl rfl) rfl ?_
 refine WpS.openSt (t := 9) (q := 3) rfl rfl hn0 fun blk cap hc => ?_
 refine WpS.S rfl rfl (dZb rfl rfl rfl) rfl ?_
 refine WpS.N rfl (cZd rfl rfl rfl rfl rfl rfl) rfl ?_
 refine WpS.sub (Sub.mkPl (t := 5) (q := 3) rfl rfl) ?_
 refine WpS.nil ?_
 skip
 repeat (first | apply js | apply jb)
 refine jr (jS (aZS jj jj) (jS (bZj jj jj jj hn0 hc) (jm jj (jS (aZS jj jj) (jS (bZj jj jj jj hn0 hc) (jm jj (jS (aZy jj jj hi (o' := i * 5) (by omega)) (jF jj jj (jS (aZt jj jj c2) (jS (bZB jj (fun w => bZA w _ _) (vint wn2)) (jS (aZy jj jj hi (o' := i * 5) (by omega)) (jF jj jj (jO (aZz jj jj jj k2 s2) (jn (js (jr (jS (aZS jj jj) (jS (bZj jj jj jj hn0 hc) (jm jj (jS (bSu jj jj w1) (jS (aZS jj jj) (jS (bZj jj jj jj hn0 hc) (jm jj (jS (bSu jj jj w1) (jS (aZy jj jj hi1 (o' := (i - 1) * 5) (by omega)) (jF jj jj (jS (aZt jj jj c3) (jS (bZB jj (fun w => bZA w _ _) (vint wn3)) (jS (aZy jj jj hi1 (o' := (i - 1) * 5) (by omega)) (jF jj jj (jO (aZz jj jj jj k3 s3) (jn (js (jr (jF jj jj (jl jj jj jj (jm jj (jS (bSu jj jj w1) (jS (aZa CP ⟨jj, jj, trivial⟩) (jF jj jj (jl jj jj jj (jm jj (jS (aZa CQ ⟨jj, jj, trivial⟩) (ja jj (ja jj (jn ?_))))))))))))))))))))))))))))))))))))))))))))))
 refine WpD.cut (α := {h : Nat → Co // h = (if 0 < P.length then tuy g (P.getD 0 0) else g)}) (fun h => ⟨[(3, .pin 9 blk), (4, .ptr 4 0), (5, .gen (plB 5 0 9 blk)), (6, .one (slc 1 (ixP P) P.length)), (7, .one (slc 1 (ixP Q) Q.length))], [(4, [ex (.int .i64 0), ex (.slice none 0 0)]), (5, [ex (.int .i64 p), ex (gvl blk n cap)]), (9, rows (ccs h.1) n)]⟩) ?_ ?_
 ·by_cases hP : 0 < P.length
  ·have hq0 := bZy hP
   have hx := hpt (P.getD 0 0) (by simp [List.getD, List.getElem?_eq_getElem hP])
   have c6 := eZH (g := g) hx
   have hyx := hy1 _ hx
   have k6 : P.getD 0 0 * 5 + 4 < (rows (ccs g) n).length := by rw [l1]; omega
   have s6 := cZ2 (g := g) hx (((g (P.getD 0 0)).y + 4) % 8)
   rw [show (fun j => if j = P.getD 0 0 then wy (g (P.getD 0 0)) (((g (P.getD 0 0)).y + 4) % 8) else g j) = tuy g (P.getD 0 0) from rfl] at s6
   have hif : tuy g (P.getD 0 0) = (if 0 < P.length then tuy g (P.getD 0 0) else g) := by rw [if_pos hP]
   have w61 : IntKind.i64.wrap ((g (P.getD 0 0)).y + 4) = (g (P.getD 0 0)).y + 4 := w64 (by omega) (by omega)
   have w62 : ((g (P.getD 0 0)).y + 4).tmod 8 = ((g (P.getD 0 0)).y + 4) % 8 := Int.tmod_eq_emod_of_nonneg (by omega)
   generalize P.getD 0 0 = x at *
   have hP' : ((P.length : Nat) : Int) > 0 := by omega
   repeat (first | apply js | apply jb)
   refine jr (jm jj (jE jj (jS (bGt jj jj) (jn (jt jj (jr (jS (aZS jj jj) (jS (bZj jj jj jj hn0 hc) (jm jj (jS (aZc (i := 0) jj jj hP hq0) (jS (aZf jj jj) (jS (aZS jj jj) (jS (bZj jj jj jj hn0 hc) (jm jj (jS (aZc (i := 0) jj jj hP hq0) (jS (aZf jj jj) (jS (aZy jj jj hx (o' := x * 5) (by omega)) (jF jj jj (jS (aZt jj jj c6) (jS (bAd jj jj w61) (jS (bRe jj jj w62) (jS (aZy jj jj hx (o' := x * 5) (by omega)) (jF jj jj (jO (aZz jj jj jj k6 s6) (jn ?_)))))))))))))))))))))))))
   refine ⟨⟨_, hif⟩, ?_⟩
   dsimp only
   refine Sub.mk ?_ ?_ <;> repeat (first | exact trivial | refine jV jj ?_ | refine jy jj ?_ | refine jw jj (js0 jj) ?_ | refine jw jj (aZ6 (js0 jj) (js0 jj)) ?_)
  ·have hP' : ¬ ((P.length : Nat) : Int) > 0 := by omega
   have hif : g = (if 0 < P.length then tuy g (P.getD 0 0) else g) := by rw [if_neg hP]
   repeat (first | apply js | apply jb)
   refine jr (jm jj (jE jj (jS (bGf jj jj) (jn (jf jj (jp ?_))))))
   refine ⟨⟨_, hif⟩, ?_⟩
   dsimp only
   refine Sub.mk ?_ ?_ <;> repeat (first | exact trivial | refine jV jj ?_ | refine jy jj ?_ | refine jw jj (js0 jj) ?_ | refine jw jj (aZ6 (js0 jj) (js0 jj)) ?_)
 rintro ⟨h, hh⟩
 dsimp only
 have hyh : ∀ x, x < n → 0 ≤ (h x).y ∧ (h x).y ≤ 7 := fun x hx => by
  rw [hh]
  split
  ·unfold tuy
   split
   ·show 0 ≤ (((g (P.getD 0 0)).y + 4) % 8) ∧ (((g (P.getD 0 0)).y + 4) % 8) ≤ 7
    omega
   ·exact hy1 x hx
  ·exact hy1 x hx
 rw [← hh]
 refine WpD.cut (α := {h2 : Nat → Co // h2 = (if 0 < Q.length ∧ (P.length = 0 ∨ P.getD 0 0 ≠ Q.getD 0 0) then tuy h (Q.getD 0 0) else h)}) (fun h => ⟨[(3, .pin 9 blk), (4, .ptr 4 0), (5, .gen (plB 5 0 9 blk))], [(4, [ex (.int .i64 0), ex (.slice none 0 0)]), (5, [ex (.int .i64 p), ex (gvl blk n cap)]), (9, rows (ccs h.1) n)]⟩) ?_ ?_
 ·clear hh
  by_cases hQ : 0 < Q.length
  ·have hq0 := bZy hQ
   have hx := hqt (Q.getD 0 0) (by simp [List.getD, List.getElem?_eq_getElem hQ])
   have c6 := eZH (g := h) hx
   have hyx := hyh _ hx
   have k6 : Q.getD 0 0 * 5 + 4 < (rows (ccs h) n).length := by rw [l1]; omega
   have s6 := cZ2 (g := h) hx (((h (Q.getD 0 0)).y + 4) % 8)
   rw [show (fun j => if j = Q.getD 0 0 then wy (h (Q.getD 0 0)) (((h (Q.getD 0 0)).y + 4) % 8) else h j) = tuy h (Q.getD 0 0) from rfl] at s6
   have hif : (P.length = 0 ∨ P.getD 0 0 ≠ Q.getD 0 0) → tuy h (Q.getD 0 0) = (if 0 < Q.length ∧ (P.length = 0 ∨ P.getD 0 0 ≠ Q.getD 0 0) then tuy h (Q.getD 0 0) else h) := fun hc => by rw [if_pos ⟨hQ, hc⟩]
   have hif2 : ¬ (P.length = 0 ∨ P.getD 0 0 ≠ Q.getD 0 0) → h = (if 0 < Q.length ∧ (P.length = 0 ∨ P.getD 0 0 ≠ Q.getD 0 0) then tuy h (Q.getD 0 0) else h) := fun hc => by rw [if_neg (fun q => hc q.2)]
   have w61 : IntKind.i64.wrap ((h (Q.getD 0 0)).y + 4) = (h (Q.getD 0 0)).y + 4 := w64 (by omega) (by omega)
   have w62 : ((h (Q.getD 0 0)).y + 4).tmod 8 = ((h (Q.getD 0 0)).y + 4) % 8 := Int.tmod_eq_emod_of_nonneg (by omega)
   have hqp : 0 < P.length → ((ixP P).drop (0 * 1)).take 1 = [ex (.int .i64 ((P.getD 0 0 : Nat) : Int))] := fun h => bZy h
   generalize Q.getD 0 0 = x at *
   generalize P.getD 0 0 = z at *
   have hQ' : ((Q.length : Nat) : Int) > 0 := by omega
   by_cases hP : P.length = 0
   ·have hP' : ((P.length : Nat) : Int) = 0 := by omega
    repeat (first | apply js | apply jb)
    refine jr (jm jj (jE jj (jS (bGt jj jj) (jm jj (jgm jj (jg (bZd jj CSlice.ok) (jg (bEt jj jj) (jgm jj (jk (jk (jk (jk (jk (jk (jk (jg (aZn jj jj) (jq jj jj (jn (jt jj (jr (jS (aZS jj jj) (jS (bZj jj jj jj hn0 hc) (jm jj (jS (aZc (i := 0) jj jj hQ hq0) (jS (aZf jj jj) (jS (aZS jj jj) (jS (bZj jj jj jj hn0 hc) (jm jj (jS (aZc (i := 0) jj jj hQ hq0) (jS (aZf jj jj) (jS (aZy jj jj hx (o' := x * 5) (by omega)) (jF jj jj (jS (aZt jj jj c6) (jS (bAd jj jj w61) (jS (bRe jj jj w62) (jS (aZy jj jj hx (o' := x * 5) (by omega)) (jF jj jj (jO (aZz jj jj jj k6 s6) (jn ?_)))))))))))))))))))))))))))))))))))))))
    refine ⟨⟨_, hif (.inl hP)⟩, ?_⟩
    dsimp only
    refine Sub.mk ?_ ?_ <;> repeat (first | exact trivial | refine jV jj ?_ | refine jy jj ?_ | refine jw jj (js0 jj) ?_ | refine jw jj (aZ6 (js0 jj) (js0 jj)) ?_)
   ·have hP' : ¬ ((P.length : Nat) : Int) = 0 := by omega
    have hP0 : 0 < P.length := by omega
    have hqp := hqp hP0
    by_cases hne : z = x
    ·have hne' : ((z : Nat) : Int) = (x : Int) := by omega
     repeat (first | apply js | apply jb)
     refine jr (jm jj (jE jj (jS (bGt jj jj) (jm jj (jgm jj (jg (bZd jj CSlice.ok) (jg (bEf jj jj) (jgm jj (jgm jj (jg (aZc (i := 0) jj jj hP0 hqp) (jg (aZf jj jj) (jgm jj (jg (aZc (i := 0) jj jj hQ hq0) (jg (aZf jj jj) (jg (bNf jj jj) (jg (aZj jj jj) (jq jj jj (jn (jf jj (jp ?_))))))))))))))))))))
     refine ⟨⟨_, hif2 (by omega)⟩, ?_⟩
     dsimp only
     refine Sub.mk ?_ ?_ <;> repeat (first | exact trivial | refine jV jj ?_ | refine jy jj ?_ | refine jw jj (js0 jj) ?_ | refine jw jj (aZ6 (js0 jj) (js0 jj)) ?_)
    ·have hne' : ((z : Nat) : Int) ≠ (x : Int) := by omega
     repeat (first | apply js | apply jb)
     refine jr (jm jj (jE jj (jS (bGt jj jj) (jm jj (jgm jj (jg (bZd jj CSlice.ok) (jg (bEf jj jj) (jgm jj (jgm jj (jg (aZc (i := 0) jj jj hP0 hqp) (jg (aZf jj jj) (jgm jj (jg (aZc (i := 0) jj jj hQ hq0) (jg (aZf jj jj) (jg (bNt jj jj) (jg (aZj jj jj) (jq jj jj (jn (jt jj (jr (jS (aZS jj jj) (jS (bZj jj jj jj hn0 hc) (jm jj (jS (aZc (i := 0) jj jj hQ hq0) (jS (aZf jj jj) (jS (aZS jj jj) (jS (bZj jj jj jj hn0 hc) (jm jj (jS (aZc (i := 0) jj jj hQ hq0) (jS (aZf jj jj) (jS (aZy jj jj hx (o' := x * 5) (by omega)) (jF jj jj (jS (aZt jj jj c6) (jS (bAd jj jj w61) (jS (bRe jj jj w62) (jS (aZy jj jj hx (o' := x * 5) (by omega)) (jF jj jj (jO (aZz jj jj jj k6 s6) (jn ?_)))))))))))))))))))))))))))))))))))))))
     refine ⟨⟨_, hif (.inr hne)⟩, ?_⟩
     dsimp only
     refine Sub.mk ?_ ?_ <;> repeat (first | exact trivial | refine jV jj ?_ | refine jy jj ?_ | refine jw jj (js0 jj) ?_ | refine jw jj (aZ6 (js0 jj) (js0 jj)) ?_)
  ·have hQ' : ¬ ((Q.length : Nat) : Int) > 0 := by omega
   have hif : h = (if 0 < Q.length ∧ (P.length = 0 ∨ P.getD 0 0 ≠ Q.getD 0 0) then tuy h (Q.getD 0 0) else h) := by rw [if_neg (fun q => hQ q.1)]
   repeat (first | apply js | apply jb)
   refine jr (jm jj (jE jj (jS (bGf jj jj) (jm jj (jk (jk (jk (jk (ju (ju (ju (ju (ju (ju (ju (jk (jQ jj jj (jn (jf jj (jp ?_))))))))))))))))))))
   refine ⟨⟨_, hif⟩, ?_⟩
   dsimp only
   refine Sub.mk ?_ ?_ <;> repeat (first | exact trivial | refine jV jj ?_ | refine jy jj ?_ | refine jw jj (js0 jj) ?_ | refine jw jj (aZ6 (js0 jj) (js0 jj)) ?_)
 rintro ⟨h2, hh2⟩
 dsimp only
 rw [← hh2]
 refine WpD.sub (Sub.unPl (t := 5) rfl) ?_
 refine WpD.sub (τ := ⟨[(4, .ptr 4 0), (5, .ptr 5 0)], [(5, [ex (.int .i64 p), slc 5 (rows (ccs h2) n) n]), (4, [ex (.int .i64 0), ex (.slice none 0 0)])]⟩) ?_ ?_
 ·exact Sub.trans (Sub.pubCell (bx0 := [(5, [ex (.int .i64 p), ex (gvl blk n cap)]), (4, [ex (.int .i64 0), ex (.slice none 0 0)])]) (sl := [(4, .ptr 4 0), (5, .ptr 5 0)]) (b := 9) (d := 5) (p := 3) (k := 5) rfl rfl (aZ3 (aZp _) n) rfl rfl hn0 hc.1 hc.2 ⟨.inl ⟨_, rfl, PsLe.refl _⟩, .inl ⟨_, rfl, PsLe.refl _⟩, trivial⟩ rfl ⟨⟨_, rfl, rfl⟩, Option.some_ne_none _, ⟨_, rfl, rfl⟩, Option.some_ne_none _, trivial⟩) (Sub.mk (by repeat (first | exact trivial | refine jv rfl ?_ | refine jw rfl (js0 rfl) ?_)) (by repeat (first | exact trivial | refine jz ?_ | refine jy rfl ?_)))
 repeat (first | apply js | apply jb)
 refine jr (jL jj jj jj (jP jj jj jj jj (jn ?_)))
 repeat (first | apply js | apply jb)
 refine WpD.ret ?_
 exact rtC rfl jj jj
end
structure Like (f g : Nat → Co) : Prop where
 e : ∀ i, (g i).e = (f i).e
 d : ∀ i, (g i).d = (f i).d
 o : ∀ i, (g i).o = (f i).o
theorem Like.refl (f : Nat → Co) : Like f f := ⟨fun _ => rfl, fun _ => rfl, fun _ => rfl⟩
theorem Like.trans {f g h : Nat → Co} (a : Like f g) (b : Like g h) : Like f h := ⟨fun i => (b.e i).trans (a.e i), fun i => (b.d i).trans (a.d i), fun i => (b.o i).trans (a.o i)⟩
theorem hZA (g : Nat → Co) (x : Nat) : Like g (tus g x) := by
 constructor <;> (intro i; unfold tus; split <;> (try subst_vars) <;> rfl)
theorem fZt (g : Nat → Co) (x : Nat) : Like g (tuy g x) := by
 constructor <;> (intro i; unfold tuy; split <;> (try subst_vars) <;> rfl)
theorem lZm (f : Nat → Co) (n i : Nat) : Like f (stp f n i) := by
 have h : Like f (tus (tus f i) (i - 1)) := (hZA f i).trans (hZA _ _)
 unfold stp
 dsimp only
 split
 ·refine Like.trans ?_ (fZt _ _)
  split
  ·exact h.trans (fZt _ _)
  ·exact h
 ·split
  ·exact h.trans (fZt _ _)
  ·exact h
theorem lZn (f : Nat → Co) (n : Nat) : Like f (fzf f n) := by
 constructor <;> (intro i; unfold fzf; split <;> rfl)
def Rng (f : Nat → Co) (n : Nat) : Prop := ∀ i, i < n → ((f i).s = 1 ∨ (f i).s = -1) ∧ 0 ≤ (f i).y ∧ (f i).y ≤ 7
theorem jZm {f : Nat → Co} {n x : Nat} (h : Rng f n) (hx : x < n) : Rng (tus f x) n := fun i hi => by
 have h1 := h i hi
 have h2 := h x hx
 unfold tus
 split
 ·exact ⟨by show -(f x).s = 1 ∨ -(f x).s = -1; omega, h2.2⟩
 ·exact h1
theorem jZl {f : Nat → Co} {n x : Nat} (h : Rng f n) (hx : x < n) : Rng (tuy f x) n := fun i hi => by
 have h1 := h i hi
 have h2 := h x hx
 unfold tuy
 split
 ·exact ⟨h2.1, by show 0 ≤ ((f x).y + 4) % 8 ∧ ((f x).y + 4) % 8 ≤ 7; omega⟩
 ·exact h1
theorem hZF {l : List Nat} (h : 0 < l.length) : l.getD 0 0 ∈ l := by simp [List.getD, List.getElem?_eq_getElem h]
theorem rng_stp {f : Nat → Co} {n i : Nat} (h : Rng f n) (hi : i < n) : Rng (stp f n i) n := by
 have h1 : Rng (tus (tus f i) (i - 1)) n := jZm (jZm h hi) (by omega)
 have h2 : Rng (if 0 < (cof (comp f n) (i - 1)).length then tuy (tus (tus f i) (i - 1)) ((cof (comp f n) (i - 1)).getD 0 0) else tus (tus f i) (i - 1)) n := by
  split
  ·rename_i hp
   exact jZl h1 (hZU _ (hZF hp))
  ·exact h1
 unfold stp
 dsimp only
 split
 ·rename_i hq
  exact jZl h2 (hZU _ (hZF hq.1))
 ·exact h2
theorem rng_fzf {f : Nat → Co} {n : Nat} (h : Rng f n) : Rng (fzf f n) n := fun i hi => by
 have h1 := h i hi
 unfold fzf
 split
 ·refine ⟨h1.1, ?_⟩
  show 0 ≤ fzy f n i ∧ fzy f n i ≤ 7
  unfold fzy
  split <;> omega
 ·exact h1
theorem Shp.like {f g : Nat → Co} {n : Nat} (H : Shp f n) (h : Like f g) : Shp g n := ⟨H.n20, fun i hi => by rw [h.e]; exact H.e0 i hi, fun i hi => by rw [h.e]; exact H.e1 i hi⟩
def cst (n : Nat) (g : Nat → Co) (i : Nat) : Nat → Co := if (g i).s = -1 ∧ lnk g n i = true then stp g n i else g
def canR (n : Nat) : Nat → (Nat → Co) → Nat → Co
 | 0, g => g
 | i + 1, g => canR n i (cst n g (i + 1))
def canf (f : Nat → Co) (n : Nat) : Nat → Co := canR n (n - 1) (fzf f n)
section
variable (En : Ev)
set_option maxHeartbeats 4000000 in
theorem rcanon (p : Int) (f : Nat → Co) (n : Nat) (hn : n ≤ 20) (hraw : rawP p f n) : Fn Tryz.prog En 22 [locP p f n] (tupP [locP p (canf f n) n, ex (.bool true)]) := by
 have C0 := rfuse En p f n hn hraw
 have hsU := hraw.1.2.2
 have hn0 : 0 < n := Nat.pos_of_ne_zero hraw.1.2.1
 have H : Shp f n := ⟨hn, fun k hk => (aZD hsU hk).1, fun k hk => (aZD hsU hk).2.1⟩
 have hR : Rng f n := fun i hi => by have := fZu hraw.2 hi; unfold legP at this; omega
 have hR1 := rng_fzf hR
 have H1 := H.like (lZn f n)
 have hcf : canf f n = canR n (n - 1) (fzf f n) := rfl
 generalize canf f n = cf at *
 generalize fzf f n = g at *
 have wn : IntKind.i64.wrap ((n : Int) - 1) = ((n - 1 : Nat) : Int) := by rw [w64 (by omega) (by omega)]; omega
 unfold locP at *
 refine aZb Tryz.func22 rfl Tryz.ntmps22 rfl ?_
 intro w0 h0
 refine js (jr (jB jj jj jj (jA jj jj jj (ja jj (jn (js (jr (jL jj jj jj (jS (aZa C0 ⟨jj, trivial⟩) (jm jj (jx' jj jj (jx' jj jj (jA jj jj jj (jP jj jj jj jj (ja jj (jn (js (js (jr (jm jj (jS (bNo jj) (jn (jf jj (jp (js (js (jr (jF jj jj (jl jj jj jj (jE jj (jS (bSu jj jj wn) (ja jj (jn (jb ?_))))))))))))))))))))))))))))))))))
 refine WpD.loop (α := {q : Nat × (Nat → Co) // q.1 < n ∧ Rng q.2 n ∧ Shp q.2 n ∧ cf = canR n q.1 q.2}) (fun q => ⟨[(2, .ptr 2 0), (4, .ptr 4 0), (6, .one (ex (.int .i64 (q.1.1 : Int))))], [(2, [ex (.int .i64 0), ex (.slice none 0 0)]), (4, [ex (.int .i64 p), slc 5 (rows (ccs q.1.2) n) n])]⟩) (fun q => q.1.1) ⟨(n - 1, g), by dsimp only; omega, hR1, H1, hcf⟩ ?_ ?_
 ·dsimp only
  refine Sub.mk ?_ ?_ <;> repeat (first | exact trivial | refine jV jj ?_ | refine jy jj ?_ | refine jw jj (js0 jj) ?_ | refine jw jj (aZ6 (js0 jj) (js0 jj)) ?_)
 clear hcf hR1 H1 C0 g
 rintro ⟨⟨i, g⟩, hi, hR1, H1, hcf⟩
 dsimp only at hi hR1 H1 hcf ⊢
 have hq : ((rows (ccs g) n).drop (i * 5)).take 5 = coc (g i) := aZo (aZp g) hi
 by_cases hi0 : i = 0
 ·subst hi0
  rw [show cf = g from hcf]
  refine js (js (jr (jm jj (jS (bHf jj jj) (jn (jf jj (je (js (jr (jL jj jj jj (jP jj jj jj jj (ja jj (jn (ji ?_))))))))))))))
  exact rtD rfl jj jj jj
 ·have hi1 : (i : Int) ≥ 1 := by omega
  have w22 : IntKind.i64.wrap ((i : Int) - 1) = ((i - 1 : Nat) : Int) := by rw [w64 (by omega) (by omega)]; omega
  have hcf' : cf = canR n (i - 1) (cst n g i) := by
   rw [hcf]
   cases i with
   | zero => exact absurd rfl hi0
   | succ k => rfl
  by_cases hs : (g i).s = -1
  ·have C1 := jZo En g n i H1 (fun j hj => (hR1 j hj).2) hi (by omega)
   cases hl : lnk g n i with
   | true =>
    rw [hl] at C1
    have C2 := rstep En p g n i H1 (fun j hj => (hR1 j hj).1) (fun j hj => (hR1 j hj).2) hi (by omega)
    unfold locP at C2
    have hc : cst n g i = stp g n i := by unfold cst; rw [if_pos ⟨hs, hl⟩]
    rw [hc] at hcf'
    refine js (js (jr (jm jj (jS (bHt jj jj) (jn (jt jj (jp (js (jb (js (jr (jF jj jj (jl jj jj jj (jm jj (jS (aZc jj jj hi hq) (jS (aZh jj jj) (jS (aZf jj jj) (jS (bEt jj jj) (jm jj (jgf jj jj (jgl jj jj jj (jgm jj (jg (aZa C1 ⟨jj, jj, trivial⟩) (jq jj jj (jn (jt jj (jr (jL jj jj jj (jm jj (jS (aZa C2 ⟨jj, jj, trivial⟩) (jP jj jj jj jj (jn (jr (jm jj (jS (bSu jj jj w22) (ja jj (jn ?_)))))))))))))))))))))))))))))))))))))
    refine ⟨⟨(i - 1, stp g n i), by dsimp only; omega, rng_stp hR1 hi, H1.like (lZm g n i), hcf'⟩, ?_, by dsimp only; omega⟩
    dsimp only
    refine Sub.mk ?_ ?_ <;> repeat (first | exact trivial | refine jV jj ?_ | refine jy jj ?_ | refine jw jj (js0 jj) ?_ | refine jw jj (aZ6 (js0 jj) (js0 jj)) ?_)
   | false =>
    rw [hl] at C1
    have hc : cst n g i = g := by unfold cst; rw [if_neg (fun h => by rw [hl] at h; exact Bool.noConfusion h.2)]
    rw [hc] at hcf'
    refine js (js (jr (jm jj (jS (bHt jj jj) (jn (jt jj (jp (js (jb (js (jr (jF jj jj (jl jj jj jj (jm jj (jS (aZc jj jj hi hq) (jS (aZh jj jj) (jS (aZf jj jj) (jS (bEt jj jj) (jm jj (jgf jj jj (jgl jj jj jj (jgm jj (jg (aZa C1 ⟨jj, jj, trivial⟩) (jq jj jj (jn (jf jj (jp (jr (jm jj (jS (bSu jj jj w22) (ja jj (jn ?_))))))))))))))))))))))))))))))))
    refine ⟨⟨(i - 1, g), by dsimp only; omega, hR1, H1, hcf'⟩, ?_, by dsimp only; omega⟩
    dsimp only
    refine Sub.mk ?_ ?_ <;> repeat (first | exact trivial | refine jV jj ?_ | refine jy jj ?_ | refine jw jj (js0 jj) ?_ | refine jw jj (aZ6 (js0 jj) (js0 jj)) ?_)
  ·have hc : cst n g i = g := by unfold cst; rw [if_neg (fun h => hs h.1)]
   rw [hc] at hcf'
   refine js (js (jr (jm jj (jS (bHt jj jj) (jn (jt jj (jp (js (jb (js (jr (jF jj jj (jl jj jj jj (jm jj (jS (aZc jj jj hi hq) (jS (aZh jj jj) (jS (aZf jj jj) (jS (bEf jj jj) (jm jj (jk (jk (jk (jk (jQ jj jj (jn (jf jj (jp (jr (jm jj (jS (bSu jj jj w22) (ja jj (jn ?_))))))))))))))))))))))))))))))))
   refine ⟨⟨(i - 1, g), by dsimp only; omega, hR1, H1, hcf'⟩, ?_, by dsimp only; omega⟩
   dsimp only
   refine Sub.mk ?_ ?_ <;> repeat (first | exact trivial | refine jV jj ?_ | refine jy jj ?_ | refine jw jj (js0 jj) ?_ | refine jw jj (aZ6 (js0 jj) (js0 jj)) ?_)
end
end Go.Proofs.YtdieokoenhncfaaGreatDoor

/- Totals, compartments of an index, links, trains: the reference's. (With LT.skipU.) -/
import Derived.Test.YtdieokoenhncfaaGreatDoorMem
import Derived.Test.YtdieokoenhncfaaGreatDoorTp
import Derived.Test.YtdieokoenhncfaaGreatDoorTi
set_option maxRecDepth 3000
namespace Go.Proofs.YtdieokoenhncfaaGreatDoor
open Go.RowKit Limb Num
instance cbody80 : CBody Tryz.prog 80 := ⟨⟨_, Tryz.func80, rfl, by rfl⟩⟩
instance cbody83 : CBody Tryz.prog 83 := ⟨⟨_, Tryz.func83, rfl, by rfl⟩⟩
instance cbody82 : CBody Tryz.prog 82 := ⟨⟨_, Tryz.func82, rfl, by rfl⟩⟩
instance cbody44 : CBody Tryz.prog 44 := ⟨⟨_, Tryz.func44, rfl, by rfl⟩⟩
def ysm (f : Nat → Co) (g : List Nat) : Nat → Int
 | 0 => 0
 | k + 1 => ysm f g k + (f (g.getD k 0)).y
theorem mZk {f : Nat → Co} {n : Nat} (hy : ∀ i, i < n → 0 ≤ (f i).y ∧ (f i).y ≤ 7) {g : List Nat} (hg : ∀ k ∈ g, k < n) : ∀ {k : Nat}, k ≤ g.length → 0 ≤ ysm f g k ∧ ysm f g k ≤ (k : Int) * 7
 | 0, _ => by simp [ysm]
 | k + 1, h => by
  have ih := mZk hy hg (k := k) (by omega)
  have hk : g.getD k 0 ∈ g := by simp [List.getD, List.getElem?_eq_getElem (show k < g.length by omega)]
  have := hy _ (hg _ hk)
  rw [ysm]
  omega
section
variable (En : Ev)
theorem jZe (f : Nat → Co) (n : Nat) (g : List Nat) (hl : g.length ≤ 20) (hg : ∀ k ∈ g, k < n) (hy : ∀ i, i < n → 0 ≤ (f i).y ∧ (f i).y ≤ 7) : Fn Tryz.prog En 80 [slc 5 (rows (ccs f) n) n, gP g] (ex (.int .i64 (ysm f g g.length % 8))) := by
 unfold gP
 refine aZb Tryz.func80 rfl Tryz.ntmps80 rfl ?_
 intro w0 h0
 refine js (jr (ja jj (jn (js (jr (ja jj (jn (js (js (jr (jm jj (jE jj (jm jj (jn (jb ?_)))))))))))))))
 refine WpD.loop (α := {k : Nat // k ≤ g.length}) (fun k => ⟨[(0, .one (slc 5 (rows (ccs f) n) n)), (5, .one (ex (.int .i64 (ysm f g k.1)))), (8, .one (slc 1 (ixP g) g.length)), (9, .one (ex (.int .i64 (g.length : Int)))), (10, .one (ex (.int .i64 (k.1 : Int))))], []⟩) (fun k => g.length - k.1) ⟨0, Nat.zero_le _⟩ ?_ ?_
 ·refine Sub.mk ?_ ?_ <;> repeat (first | exact trivial | refine jV jj ?_ | refine jy jj ?_ | refine jw jj (js0 jj) ?_)
 rintro ⟨k, hk⟩
 dsimp only at hk ⊢
 obtain ⟨m1, m2⟩ := mZk hy hg hk
 by_cases hlt : k < g.length
 ·have hqi := bZy hlt
  have hm2 := gmem 0 hlt
  have hx := hg _ hm2
  have hq : ((rows (ccs f) n).drop (g.getD k 0 * 5)).take 5 = coc (f (g.getD k 0)) := aZo (aZp f) hx
  have hb := hy _ hx
  have w3 : IntKind.i64.wrap (ysm f g k + (f (g.getD k 0)).y) = ysm f g (k + 1) := w64 (by omega) (by omega)
  have w4 := wS k (by omega)
  generalize g.getD k 0 = x at *
  refine js (jr (jS (bLt jj jj) (jn (js (jt jj (jp (js (jb (js (jr (jS (aZc jj jj hlt hqi) (jS (aZf jj jj) (ja jj (jn (jr (jm jj (jm jj (jm jj (jS (aZc jj jj hx hq) (jS (aZh jj jj) (jS (aZf jj jj) (jS (bAd jj jj w3) (ja jj (jn (jr (jS (bAd jj jj w4) (jm jj (jn ?_))))))))))))))))))))))))))))
  refine ⟨⟨k + 1, by omega⟩, ?_, by dsimp only; omega⟩
  refine Sub.mk ?_ ?_ <;> repeat (first | exact trivial | refine jV jj ?_ | refine jy jj ?_ | refine jw jj (js0 jj) ?_)
 ·have hkn : k = g.length := by omega
  subst hkn
  have wm : (ysm f g g.length).tmod 8 = ysm f g g.length % 8 := Int.tmod_eq_emod_of_nonneg m1
  refine js (jr (jS (bLf jj jj) (jn (js (jf jj (je (js (jr (jm jj (jS (bRe jj jj wm) (ja jj (jn (ji ?_)))))))))))))
  exact rtT rfl jj
theorem fZl (f : Nat → Co) (n i : Nat) (H : Shp f n) : Fn Tryz.prog En 83 [slc 5 (rows (ccs f) n) n, ex (.int .i64 (i : Int))] (gP (cof (comp f n) i)) := by
 have C1 := hZo En f n H
 have hn := H.n20
 have hG : ∀ g ∈ comp f n, g.length ≤ 20 := fun g hg => Nat.le_trans (bZY g hg) hn
 have hl : (comp f n).length ≤ 20 := Nat.le_trans (bZ2 _ _ _).1 hn
 generalize comp f n = G at *
 unfold bZl at C1
 refine aZb Tryz.func83 rfl Tryz.ntmps83 rfl ?_
 intro w0 h0
 refine js (jr (ja jj (jn (js (js (jr (jm jj (jS (aZa C1 ⟨jj, trivial⟩) (jE jj (jm jj (jn (jb ?_))))))))))))
 refine WpD.loop (α := {k : Nat // k ≤ G.length ∧ cof G i = cof (G.drop k) i}) (fun k => ⟨[(1, .one (ex (.int .i64 (i : Int)))), (10, .one (slc 1 (G.map gP) G.length)), (11, .one (ex (.int .i64 (G.length : Int)))), (12, .one (ex (.int .i64 (k.1 : Int))))], []⟩) (fun k => G.length - k.1) ⟨0, Nat.zero_le _, rfl⟩ ?_ ?_
 ·refine Sub.mk ?_ ?_ <;> repeat (first | exact trivial | refine jV jj ?_ | refine jy jj ?_ | refine jw jj (js0 jj) ?_)
 rintro ⟨k, hk, he⟩
 dsimp only at hk he ⊢
 by_cases hlt : k < G.length
 ·have hq := dZo hlt
  have w1 := wS k (by omega)
  have hmem := gmem [] hlt
  rw [aZY (d := []) hlt, cof] at he
  have hgl := hG _ hmem
  generalize G.getD k [] = g at *
  unfold gP at hq
  refine js (jr (jS (bLt jj jj) (jn (js (jt jj (jp (js (jb (js (jr (jS (aZc jj jj hlt hq) (jS (aZf jj jj) (ja jj (jn (js (jr (jm jj (jE jj (jm jj (jn (jb ?_)))))))))))))))))))))
  refine WpD.loop (α := {j : Nat // j ≤ g.length ∧ (i ∈ g ↔ i ∈ g.drop j)}) (fun j => ⟨[(1, .one (ex (.int .i64 (i : Int)))), (6, .one (slc 1 (ixP g) g.length)), (10, .one (slc 1 (G.map gP) G.length)), (11, .one (ex (.int .i64 (G.length : Int)))), (12, .one (ex (.int .i64 (k : Int)))), (16, .one (slc 1 (ixP g) g.length)), (17, .one (ex (.int .i64 (g.length : Int)))), (18, .one (ex (.int .i64 (j.1 : Int))))], []⟩) (fun j => g.length - j.1) ⟨0, Nat.zero_le _, Iff.rfl⟩ ?_ ?_
  ·refine Sub.mk ?_ ?_ <;> repeat (first | exact trivial | refine jV jj ?_ | refine jy jj ?_ | refine jw jj (js0 jj) ?_)
  rintro ⟨j, hj, hji⟩
  dsimp only at hj hji ⊢
  by_cases hlj : j < g.length
  ·have hqi := bZy hlj
   have w4 := wS j (by omega)
   rw [aZY (d := 0) hlj, List.mem_cons] at hji
   generalize g.getD j 0 = x at *
   by_cases hx : i = x
   ·have hig : i ∈ g := hji.2 (.inl hx)
    rw [if_pos hig] at he
    rw [he]
    have hx' : (x : Int) = (i : Int) := by omega
    refine js (jr (jS (bLt jj jj) (jn (js (jt jj (jp (js (jb (js (jr (jS (aZc jj jj hlj hqi) (jS (aZf jj jj) (ja jj (jn (js (jr (jm jj (jm jj (jS (bEt jj jj) (jn (jt jj (js (jr (jm jj (ja jj (jn (ji ?_)))))))))))))))))))))))))))
    exact rtT rfl jj
   ·have hx' : (x : Int) ≠ (i : Int) := by omega
    refine js (jr (jS (bLt jj jj) (jn (js (jt jj (jp (js (jb (js (jr (jS (aZc jj jj hlj hqi) (jS (aZf jj jj) (ja jj (jn (js (jr (jm jj (jm jj (jS (bEf jj jj) (jn (jf jj (jp (jr (jS (bAd jj jj w4) (jm jj (jn ?_))))))))))))))))))))))))))
    refine ⟨⟨j + 1, by omega, hji.trans ⟨fun h => h.resolve_left hx, .inr⟩⟩, ?_, by dsimp only; omega⟩
    refine Sub.mk ?_ ?_ <;> repeat (first | exact trivial | refine jV jj ?_ | refine jy jj ?_ | refine jw jj (js0 jj) ?_)
  ·have hni : i ∉ g := fun h => by have := hji.1 h; rw [List.drop_of_length_le (by omega)] at this; cases this
   rw [if_neg hni] at he
   refine js (jr (jS (bLf jj jj) (jn (js (jf jj (je (jr (jS (bAd jj jj w1) (jm jj (jn ?_))))))))))
   refine ⟨⟨k + 1, by omega, he⟩, ?_, by dsimp only; omega⟩
   refine Sub.mk ?_ ?_ <;> repeat (first | exact trivial | refine jV jj ?_ | refine jy jj ?_ | refine jw jj (js0 jj) ?_)
 ·rw [List.drop_of_length_le (by omega), cof] at he
  rw [he]
  refine js (jr (jS (bLf jj jj) (jn (js (jf jj (je (js (jr (ja jj (jn (ji ?_)))))))))))
  exact ret1 rfl (.tmp rfl) mZF
theorem rbad (f : Nat → Co) (n : Nat) (g : List Nat) (hg : ∀ i ∈ g, i < n) (hy : ∀ i, i < n → 0 ≤ (f i).y ∧ (f i).y ≤ 7) : Fn Tryz.prog En 82 [slc 5 (rows (ccs f) n) n, gP g] (ex (.bool (decide (¬ dZp f g)))) := by
 by_cases h2 : g.length = 2
 ·obtain ⟨a, b, rfl⟩ : ∃ a b, g = [a, b] := by
   match g, h2 with
   | [a, b], _ => exact ⟨a, b, rfl⟩
  have ha := hg a (by simp)
  have hb := hg b (by simp)
  have hqa : ((rows (ccs f) n).drop (a * 5)).take 5 = coc (f a) := aZo (aZp f) ha
  have hqb : ((rows (ccs f) n).drop (b * 5)).take 5 = coc (f b) := aZo (aZp f) hb
  have y1 := hy a ha
  have y2 := hy b hb
  have C1 := jZe En f n [a, b] (by simp) hg hy
  have hys : ysm f [a, b] [a, b].length = (f a).y + (f b).y := by simp [ysm]
  rw [hys] at C1
  have w2 : (((f a).y + (f b).y) % 8).tmod 4 = ((f a).y + (f b).y) % 4 := by rw [Int.tmod_eq_emod_of_nonneg (by omega)]; omega
  have hG : (¬ dZp f [a, b]) ↔ ((f a).d = 1 ∧ (f b).d = 1 ∧ ((f a).y + (f b).y) % 4 = 0) := by unfold dZp; simp
  rw [show decide (¬ dZp f [a, b]) = _ from decide_eq_decide.2 hG]
  unfold gP at *
  by_cases d1 : (f a).d = 1
  ·by_cases d2 : (f b).d = 1
   ·by_cases d3 : ((f a).y + (f b).y) % 4 = 0
    ·rw [decide_eq_true ⟨d1, d2, d3⟩]
     refine aZb Tryz.func82 rfl Tryz.ntmps82 rfl ?_
     intro w0 h0
     refine js (jr (ja jj (jn (js (jr (jm jj (jE jj (jS (bEt jj jj) (jm jj (jgm jj (jgm jj (jg (aZc (i := 0) jj jj (by simp) jj) (jg (aZf jj jj) (jg (aZc jj jj ha hqa) (jg (aZh jj jj) (jg (aZf jj jj) (jg (bEt jj jj) (jq jj jj (jm jj (jgm jj (jgm jj (jg (aZc (i := 1) jj jj (by simp) jj) (jg (aZf jj jj) (jg (aZc jj jj hb hqb) (jg (aZh jj jj) (jg (aZf jj jj) (jg (bEt jj jj) (jq jj jj (jm jj (jgm jj (jgm jj (jg (aZa C1 ⟨jj, jj, trivial⟩) (jg (bRe jj jj w2) (jg (bEt jj jj) (jq jj jj (ja jj (jn (ji ?_))))))))))))))))))))))))))))))))))))))
     exact rtT rfl jj
    ·rw [decide_eq_false (fun h => d3 h.2.2)]
     refine aZb Tryz.func82 rfl Tryz.ntmps82 rfl ?_
     intro w0 h0
     refine js (jr (ja jj (jn (js (jr (jm jj (jE jj (jS (bEt jj jj) (jm jj (jgm jj (jgm jj (jg (aZc (i := 0) jj jj (by simp) jj) (jg (aZf jj jj) (jg (aZc jj jj ha hqa) (jg (aZh jj jj) (jg (aZf jj jj) (jg (bEt jj jj) (jq jj jj (jm jj (jgm jj (jgm jj (jg (aZc (i := 1) jj jj (by simp) jj) (jg (aZf jj jj) (jg (aZc jj jj hb hqb) (jg (aZh jj jj) (jg (aZf jj jj) (jg (bEt jj jj) (jq jj jj (jm jj (jgm jj (jgm jj (jg (aZa C1 ⟨jj, jj, trivial⟩) (jg (bRe jj jj w2) (jg (bEf jj jj) (jq jj jj (ja jj (jn (ji ?_))))))))))))))))))))))))))))))))))))))
     exact rtT rfl jj
   ·rw [decide_eq_false (fun h => d2 h.2.1)]
    refine aZb Tryz.func82 rfl Tryz.ntmps82 rfl ?_
    intro w0 h0
    refine js (jr (ja jj (jn (js (jr (jm jj (jE jj (jS (bEt jj jj) (jm jj (jgm jj (jgm jj (jg (aZc (i := 0) jj jj (by simp) jj) (jg (aZf jj jj) (jg (aZc jj jj ha hqa) (jg (aZh jj jj) (jg (aZf jj jj) (jg (bEt jj jj) (jq jj jj (jm jj (jgm jj (jgm jj (jg (aZc (i := 1) jj jj (by simp) jj) (jg (aZf jj jj) (jg (aZc jj jj hb hqb) (jg (aZh jj jj) (jg (aZf jj jj) (jg (bEf jj jj) (jq jj jj (jm jj (jk (jk (jk (jk (jk (jQ jj jj (ja jj (jn (ji ?_))))))))))))))))))))))))))))))))))))))
    exact rtT rfl jj
  ·rw [decide_eq_false (fun h => d1 h.1)]
   refine aZb Tryz.func82 rfl Tryz.ntmps82 rfl ?_
   intro w0 h0
   refine js (jr (ja jj (jn (js (jr (jm jj (jE jj (jS (bEt jj jj) (jm jj (jgm jj (jgm jj (jg (aZc (i := 0) jj jj (by simp) jj) (jg (aZf jj jj) (jg (aZc jj jj ha hqa) (jg (aZh jj jj) (jg (aZf jj jj) (jg (bEf jj jj) (jq jj jj (jm jj (jk (jk (jk (jk (jk (jk (jk (jk (jQ jj jj (jm jj (jk (jk (jk (jk (jk (jQ jj jj (ja jj (jn (ji ?_))))))))))))))))))))))))))))))))))))))
   exact rtT rfl jj
 ·rw [decide_eq_false (fun h => h (.inl h2))]
  have h2' : ((g.length : Nat) : Int) ≠ 2 := by omega
  unfold gP
  refine aZb Tryz.func82 rfl Tryz.ntmps82 rfl ?_
  intro w0 h0
  refine js (jr (ja jj (jn (js (jr (jm jj (jE jj (jS (bEf jj jj) (jm jj (jk (jk (jk (jk (jk (jk (jk (jk (jQ jj jj (jm jj (jk (jk (jk (jk (jk (jk (jk (jk (jQ jj jj (jm jj (jk (jk (jk (jk (jk (jQ jj jj (ja jj (jn (ji ?_))))))))))))))))))))))))))))))))))))))
  exact rtT rfl jj
set_option maxHeartbeats 1000000 in
theorem jZo (f : Nat → Co) (n i : Nat) (H : Shp f n) (hy : ∀ i, i < n → 0 ≤ (f i).y ∧ (f i).y ≤ 7) (hi : i < n) (h0i : 0 < i) : Fn Tryz.prog En 44 [slc 5 (rows (ccs f) n) n, ex (.int .i64 (i : Int))] (ex (.bool (lnk f n i))) := by
 have hn := H.n20
 have hi2 : i - 1 < n := by omega
 have hq2 : ((rows (ccs f) n).drop (i * 5)).take 5 = coc (f i) := aZo (aZp f) hi
 have hq1 : ((rows (ccs f) n).drop ((i - 1) * 5)).take 5 = coc (f (i - 1)) := aZo (aZp f) hi2
 have b1 := H.e0 _ hi2
 have b2 := H.e1 _ hi2
 have b3 := H.e0 _ hi
 have b4 := H.e1 _ hi
 have w1 : IntKind.i64.wrap ((i : Int) - 1) = ((i - 1 : Nat) : Int) := by rw [w64 (by omega) (by omega)]; omega
 have w2 : IntKind.i64.wrap ((f i).e - (f (i - 1)).e) = (f i).e - (f (i - 1)).e := w64 (by omega) (by omega)
 have C1 := fZl En f n i H
 have C2 := rbad En f n (cof (comp f n) i) (fun k hk => by
  rcases eZy (comp f n) i with h | h
  ·rw [h] at hk; cases hk
  ·exact bZX _ h k hk) hy
 have hnot : (!decide (¬ dZp f (cof (comp f n) i))) = decide (dZp f (cof (comp f n) i)) := by simp
 have bt : (true != true) = false := rfl
 have bf : (false != false) = false := rfl
 have btf : (true != false) = true := rfl
 have bft : (false != true) = true := rfl
 unfold lnk
 unfold coc at hq1 hq2
 by_cases d1 : (f i).e - (f (i - 1)).e = 1
 ·rw [if_pos d1]
  cases ho1 : (f (i - 1)).o with
  | true =>
   rw [ho1] at hq1
   cases ho2 : (f i).o with
   | true =>
    rw [ho2] at hq2
    rw [if_pos ⟨rfl, rfl⟩, ← hnot]
    refine aZb Tryz.func44 rfl Tryz.ntmps44 rfl ?_
    intro w0 h0
    refine js (jr (ja jj (jn (js (jr (jm jj (jm jj (jS (bSu jj jj w1) (jS (aZc jj jj hi2 hq1) (jS (aZg jj jj jj) (jm jj (jm jj (jS (aZc jj jj hi hq2) (jS (aZg jj jj jj) (jA jj jj jj (jA jj jj jj (jP jj jj jj jj (jP jj jj jj jj (jn (js (js (jr (jF jj jj (jl jj jj jj (jF jj jj (jl jj jj jj (jS (bSu jj jj w2) (jn (jb (js (jr (jS (bEt jj jj) (ja jj (jn (jt jj (js (jr (jF jj jj (jl jj jj jj (jF jj jj (jl jj jj jj (jS (aZd jj jj (fun w => bZz w CBool.ok _ _ _ _) (aZm bt)) (jm jj (jgf jj jj (jgl jj jj jj (jgm jj (jgm jj (jgm jj (jgm jj (jg (aZa C1 ⟨jj, jj, trivial⟩) (jg (aZa C2 ⟨jj, jj, trivial⟩) (jg (bNo jj) (jg (aZn jj jj) (jQ jj jj (ja jj (jn ?_))))))))))))))))))))))))))))))))))))))))))))))))))))))))
    refine ji ?_
    exact rtT rfl jj
   | false =>
    rw [ho2] at hq2
    rw [if_neg (by simp)]
    refine aZb Tryz.func44 rfl Tryz.ntmps44 rfl ?_
    intro w0 h0
    refine js (jr (ja jj (jn (js (jr (jm jj (jm jj (jS (bSu jj jj w1) (jS (aZc jj jj hi2 hq1) (jS (aZg jj jj jj) (jm jj (jm jj (jS (aZc jj jj hi hq2) (jS (aZg jj jj jj) (jA jj jj jj (jA jj jj jj (jP jj jj jj jj (jP jj jj jj jj (jn (js (js (jr (jF jj jj (jl jj jj jj (jF jj jj (jl jj jj jj (jS (bSu jj jj w2) (jn (jb (js (jr (jS (bEt jj jj) (ja jj (jn (jt jj (js (jr (jF jj jj (jl jj jj jj (jF jj jj (jl jj jj jj (jS (aZd jj jj (fun w => bZz w CBool.ok _ _ _ _) (aZm btf)) (jm jj (jk (jk (jk (ju (ju (ju (ju (ju (ju (jk (jq jj jj (ja jj (jn ?_))))))))))))))))))))))))))))))))))))))))))))))))))))))))
    refine ji ?_
    exact rtT rfl jj
  | false =>
   rw [ho1] at hq1
   cases ho2 : (f i).o with
   | true =>
    rw [ho2] at hq2
    rw [if_neg (by simp)]
    refine aZb Tryz.func44 rfl Tryz.ntmps44 rfl ?_
    intro w0 h0
    refine js (jr (ja jj (jn (js (jr (jm jj (jm jj (jS (bSu jj jj w1) (jS (aZc jj jj hi2 hq1) (jS (aZg jj jj jj) (jm jj (jm jj (jS (aZc jj jj hi hq2) (jS (aZg jj jj jj) (jA jj jj jj (jA jj jj jj (jP jj jj jj jj (jP jj jj jj jj (jn (js (js (jr (jF jj jj (jl jj jj jj (jF jj jj (jl jj jj jj (jS (bSu jj jj w2) (jn (jb (js (jr (jS (bEt jj jj) (ja jj (jn (jt jj (js (jr (jF jj jj (jl jj jj jj (jF jj jj (jl jj jj jj (jS (aZd jj jj (fun w => bZz w CBool.ok _ _ _ _) (aZm bft)) (jm jj (jk (jk (jk (ju (ju (ju (ju (ju (ju (jk (jq jj jj (ja jj (jn ?_))))))))))))))))))))))))))))))))))))))))))))))))))))))))
    refine ji ?_
    exact rtT rfl jj
   | false =>
    rw [ho2] at hq2
    rw [if_neg (by simp)]
    refine aZb Tryz.func44 rfl Tryz.ntmps44 rfl ?_
    intro w0 h0
    refine js (jr (ja jj (jn (js (jr (jm jj (jm jj (jS (bSu jj jj w1) (jS (aZc jj jj hi2 hq1) (jS (aZg jj jj jj) (jm jj (jm jj (jS (aZc jj jj hi hq2) (jS (aZg jj jj jj) (jA jj jj jj (jA jj jj jj (jP jj jj jj jj (jP jj jj jj jj (jn (js (js (jr (jF jj jj (jl jj jj jj (jF jj jj (jl jj jj jj (jS (bSu jj jj w2) (jn (jb (js (jr (jS (bEt jj jj) (ja jj (jn (jt jj (js (jr (jF jj jj (jl jj jj jj (jF jj jj (jl jj jj jj (jS (aZd jj jj (fun w => bZz w CBool.ok _ _ _ _) (aZm bf)) (jm jj (jgf jj jj (jgl jj jj jj (jgm jj (jk (jk (jk (jk (jk (jk (jg (aZj jj jj) (jQ jj jj (ja jj (jn ?_))))))))))))))))))))))))))))))))))))))))))))))))))))))))
    refine ji ?_
    exact rtT rfl jj
 ·rw [if_neg d1]
  by_cases d2 : (f i).e - (f (i - 1)).e = 2
  ·rw [if_pos d2]
   cases ho1 : (f (i - 1)).o with
   | true =>
    rw [ho1] at hq1
    cases ho2 : (f i).o with
    | true =>
     rw [ho2] at hq2
     refine aZb Tryz.func44 rfl Tryz.ntmps44 rfl ?_
     intro w0 h0
     refine js (jr (ja jj (jn (js (jr (jm jj (jm jj (jS (bSu jj jj w1) (jS (aZc jj jj hi2 hq1) (jS (aZg jj jj jj) (jm jj (jm jj (jS (aZc jj jj hi hq2) (jS (aZg jj jj jj) (jA jj jj jj (jA jj jj jj (jP jj jj jj jj (jP jj jj jj jj (jn (js (js (jr (jF jj jj (jl jj jj jj (jF jj jj (jl jj jj jj (jS (bSu jj jj w2) (jn (jb (js (jr (jS (bEf jj jj) (ja jj (jn (jf jj (js (jr (jS (bEt jj jj) (ja jj (jn ?_))))))))))))))))))))))))))))))))))))))))
     refine jt jj (js (jr (jF jj jj (jl jj jj jj (jm jj (jgf jj jj (jgl jj jj jj (jq jj jj (ja jj (jn (ji ?_)))))))))))
     exact rtT rfl jj
    | false =>
     rw [ho2] at hq2
     refine aZb Tryz.func44 rfl Tryz.ntmps44 rfl ?_
     intro w0 h0
     refine js (jr (ja jj (jn (js (jr (jm jj (jm jj (jS (bSu jj jj w1) (jS (aZc jj jj hi2 hq1) (jS (aZg jj jj jj) (jm jj (jm jj (jS (aZc jj jj hi hq2) (jS (aZg jj jj jj) (jA jj jj jj (jA jj jj jj (jP jj jj jj jj (jP jj jj jj jj (jn (js (js (jr (jF jj jj (jl jj jj jj (jF jj jj (jl jj jj jj (jS (bSu jj jj w2) (jn (jb (js (jr (jS (bEf jj jj) (ja jj (jn (jf jj (js (jr (jS (bEt jj jj) (ja jj (jn ?_))))))))))))))))))))))))))))))))))))))))
     refine jt jj (js (jr (jF jj jj (jl jj jj jj (jm jj (jgf jj jj (jgl jj jj jj (jq jj jj (ja jj (jn (ji ?_)))))))))))
     exact rtT rfl jj
   | false =>
    rw [ho1] at hq1
    refine aZb Tryz.func44 rfl Tryz.ntmps44 rfl ?_
    intro w0 h0
    refine js (jr (ja jj (jn (js (jr (jm jj (jm jj (jS (bSu jj jj w1) (jS (aZc jj jj hi2 hq1) (jS (aZg jj jj jj) (jm jj (jm jj (jS (aZc jj jj hi hq2) (jS (aZg jj jj jj) (jA jj jj jj (jA jj jj jj (jP jj jj jj jj (jP jj jj jj jj (jn (js (js (jr (jF jj jj (jl jj jj jj (jF jj jj (jl jj jj jj (jS (bSu jj jj w2) (jn (jb (js (jr (jS (bEf jj jj) (ja jj (jn (jf jj (js (jr (jS (bEt jj jj) (ja jj (jn ?_))))))))))))))))))))))))))))))))))))))))
    refine jt jj (js (jr (jF jj jj (jl jj jj jj (jm jj (jk (jk (jQ jj jj (ja jj (jn (ji ?_)))))))))))
    exact rtT rfl jj
  ·rw [if_neg d2]
   refine aZb Tryz.func44 rfl Tryz.ntmps44 rfl ?_
   intro w0 h0
   refine js (jr (ja jj (jn (js (jr (jm jj (jm jj (jS (bSu jj jj w1) (jS (aZc jj jj hi2 hq1) (jS (aZg jj jj jj) (jm jj (jm jj (jS (aZc jj jj hi hq2) (jS (aZg jj jj jj) (jA jj jj jj (jA jj jj jj (jP jj jj jj jj (jP jj jj jj jj (jn (js (js (jr (jF jj jj (jl jj jj jj (jF jj jj (jl jj jj jj (jS (bSu jj jj w2) (jn (jb (js (jr (jS (bEf jj jj) (ja jj (jn (jf jj (js (jr (jS (bEf jj jj) (ja jj (jn ?_))))))))))))))))))))))))))))))))))))))))
   refine jf jj (jp (js (jr (ja jj (jn (ji ?_))))))
   exact rtT rfl jj
end
end Go.Proofs.YtdieokoenhncfaaGreatDoor
/- The order of a symbol's constituents, for any symbol: the reference's. (With LT.skipU.) -/
namespace Go.Proofs.YtdieokoenhncfaaGreatDoor
open Go.RowKit Limb Num
def sgU (f : Nat → Co) : Nat → Prop
 | 0 => True
 | i + 1 => sgU f i ∧ ((f i).s = 1 ∨ (f i).s = -1)
instance sgU_dec (f : Nat → Co) : ∀ n, Decidable (sgU f n)
 | 0 => .isTrue trivial
 | n + 1 => by unfold sgU; have := sgU_dec f n; infer_instance
theorem iZZ {f : Nat → Co} : ∀ {n i : Nat}, i ≤ n → sgU f n → sgU f i
 | 0, i, h, hs => by rw [show i = 0 by omega]; exact hs
 | n + 1, i, h, hs => by
  by_cases e : i = n + 1
  ·rw [e]; exact hs
  ·exact iZZ (by omega) hs.1
def ordP (f : Nat → Co) (n : Nat) : Prop := n ≠ 0 ∧ shU f n ∧ sgU f n
instance (f : Nat → Co) (n : Nat) : Decidable (ordP f n) := by unfold ordP; infer_instance
theorem jZM (f : Nat → Co) {i : Nat} (h : i ≠ 0) : bZS f i = (f (i - 1)).e := by unfold bZS; rw [if_neg h]
section
variable (En : Ev)
set_option maxHeartbeats 4000000 in
theorem gZ5 (f : Nat → Co) (n : Nat) (hn : n ≤ 1000) : Fn Tryz.prog En 108 [slc 5 (rows (ccs f) n) n] (ex (.bool (decide (ordP f n)))) := by
 have key1 : ∀ i, i < n → ¬ shU f (i + 1) → ¬ ordP f n := fun i hi h h' => h (fZM (by omega) h'.2.1)
 have key2 : ∀ i, i < n → ¬ sgU f (i + 1) → ¬ ordP f n := fun i hi h h' => h (iZZ (by omega) h'.2.2)
 refine aZb Tryz.func108 rfl Tryz.ntmps108 rfl ?_
 intro w0 h0
 refine js (jr (ja jj (jn (js (jr (ja jj (jn (js (js (jr (jm jj (jE jj (jm jj (jn (jb ?_)))))))))))))))
 refine WpD.loop (α := {i : Nat // i ≤ n ∧ shU f i ∧ sgU f i}) (fun i => ⟨[(0, .one (slc 5 (rows (ccs f) n) n)), (3, .one (ex (.int .i64 (dsm2 f i.1)))), (6, .one (slc 5 (rows (ccs f) n) n)), (7, .one (ex (.int .i64 (n : Int)))), (8, .one (ex (.int .i64 (i.1 : Int))))], []⟩) (fun i => n - i.1) ⟨0, Nat.zero_le _, trivial, trivial⟩ ?_ ?_
 ·refine Sub.mk ?_ ?_ <;> repeat (first | exact trivial | refine jV jj ?_ | refine jy jj ?_ | refine jw jj (js0 jj) ?_)
 rintro ⟨i, hi, hs, hg⟩
 dsimp only at hi hs hg ⊢
 obtain ⟨s1, s2, s3, s4⟩ := eZC hs
 by_cases hlt : i < n
 ·have hq : ((rows (ccs f) n).drop (i * 5)).take 5 = coc (f i) := aZo (aZp f) hlt
  have w1 := wS i (by omega)
  have w2 : IntKind.i64.wrap (8 - dsm2 f i) = 8 - dsm2 f i := w64 (by omega) (by omega)
  by_cases c0 : (f i).e < 0
  ·rw [decide_eq_false (key1 i hlt fun h => by have := h.2.1; omega)]
   refine js (jr (jS (bLt jj jj) (jn (js (jt jj (jp (js (jb (js (jr (jm jj (jS (aZc jj jj hlt hq) (jS (aZg jj jj jj) (jA jj jj jj (ja jj (jP jj jj jj jj (jn (js (js (jr (jF jj jj (jl jj jj jj (jS (bLt jj jj) (jm jj (jk (jk (jk (jq jj jj (jm jj (jk (jk (jk (ju (ju (ju (ju (ju (ju (ju (ju (ju (jk (jq jj jj (jm jj (jk (jk (jk (jk (ju (ju (ju (jk (jq jj jj (jm jj (jk (jk (jk (jq jj jj (jm jj (jk (jk (jk (jk (jk (jq jj jj (jn ?_))))))))))))))))))))))))))))))))))))))))))))))))))))))))))))))))))
   refine jt jj (js (jr (ja jj (jn (ji ?_)))))
   exact rtT rfl jj
  by_cases c2 : (f i).e > 60
  ·rw [decide_eq_false (key1 i hlt fun h => by have := h.2.2.1; omega)]
   refine js (jr (jS (bLt jj jj) (jn (js (jt jj (jp (js (jb (js (jr (jm jj (jS (aZc jj jj hlt hq) (jS (aZg jj jj jj) (jA jj jj jj (ja jj (jP jj jj jj jj (jn (js (js (jr (jF jj jj (jl jj jj jj (jS (bLf jj jj) (jm jj (jgf jj jj (jgl jj jj jj (jg (bGt jj jj) (jQ jj jj (jm jj (jk (jk (jk (ju (ju (ju (ju (ju (ju (ju (ju (ju (jk (jq jj jj (jm jj (jk (jk (jk (jk (ju (ju (ju (jk (jq jj jj (jm jj (jk (jk (jk (jq jj jj (jm jj (jk (jk (jk (jk (jk (jq jj jj (jn ?_))))))))))))))))))))))))))))))))))))))))))))))))))))))))))))))))))
   refine jt jj (js (jr (ja jj (jn (ji ?_)))))
   exact rtT rfl jj
  by_cases h0i : i = 0
  ·have h0i' : (i : Int) = 0 := by omega
   have hle : bZS f i = -1 := by rw [h0i]; rfl
   by_cases g0 : (f i).s = 1
   ·have c5 : (f i).s = 1 ∨ (f i).s = -1 := .inl g0
    by_cases c3 : (f i).d < 1
    ·rw [decide_eq_false (key1 i hlt fun h => by have := h.2.2.2.1; omega)]
     refine js (jr (jS (bLt jj jj) (jn (js (jt jj (jp (js (jb (js (jr (jm jj (jS (aZc jj jj hlt hq) (jS (aZg jj jj jj) (jA jj jj jj (ja jj (jP jj jj jj jj (jn (js (js (jr (jF jj jj (jl jj jj jj (jS (bLf jj jj) (jm jj (jgf jj jj (jgl jj jj jj (jg (bGf jj jj) (jQ jj jj (jm jj (jgm jj (jg (bGf jj jj) (jgm jj (jk (jk (jk (jk (jk (jk (jk (jk (jk (jg (aZj jj jj) (jQ jj jj (jm jj (jgf jj jj (jgl jj jj jj (jg (bNf jj jj) (jgm jj (jk (jk (jk (jg (aZj jj jj) (jQ jj jj (jm jj (jgf jj jj (jgl jj jj jj (jg (bLt jj jj) (jQ jj jj (jm jj (jk (jk (jk (jk (jk (jq jj jj (jn ?_))))))))))))))))))))))))))))))))))))))))))))))))))))))))))))))))))
     refine jt jj (js (jr (ja jj (jn (ji ?_)))))
     exact rtT rfl jj
    by_cases c4 : (f i).d > 8 - dsm2 f i
    ·rw [decide_eq_false (key1 i hlt fun h => by have := h.2.2.2.2; omega)]
     refine js (jr (jS (bLt jj jj) (jn (js (jt jj (jp (js (jb (js (jr (jm jj (jS (aZc jj jj hlt hq) (jS (aZg jj jj jj) (jA jj jj jj (ja jj (jP jj jj jj jj (jn (js (js (jr (jF jj jj (jl jj jj jj (jS (bLf jj jj) (jm jj (jgf jj jj (jgl jj jj jj (jg (bGf jj jj) (jQ jj jj (jm jj (jgm jj (jg (bGf jj jj) (jgm jj (jk (jk (jk (jk (jk (jk (jk (jk (jk (jg (aZj jj jj) (jQ jj jj (jm jj (jgf jj jj (jgl jj jj jj (jg (bNf jj jj) (jgm jj (jk (jk (jk (jg (aZj jj jj) (jQ jj jj (jm jj (jgf jj jj (jgl jj jj jj (jg (bLf jj jj) (jQ jj jj (jm jj (jgf jj jj (jgl jj jj jj (jgm jj (jg (bSu jj jj w2) (jg (bGt jj jj) (jQ jj jj (jn ?_))))))))))))))))))))))))))))))))))))))))))))))))))))))))))))))))))
     refine jt jj (js (jr (ja jj (jn (ji ?_)))))
     exact rtT rfl jj
    have w3 : IntKind.i64.wrap (dsm2 f i + (f i).d) = dsm2 f (i + 1) := w64 (by omega) (by omega)
    refine js (jr (jS (bLt jj jj) (jn (js (jt jj (jp (js (jb (js (jr (jm jj (jS (aZc jj jj hlt hq) (jS (aZg jj jj jj) (jA jj jj jj (ja jj (jP jj jj jj jj (jn (js (js (jr (jF jj jj (jl jj jj jj (jS (bLf jj jj) (jm jj (jgf jj jj (jgl jj jj jj (jg (bGf jj jj) (jQ jj jj (jm jj (jgm jj (jg (bGf jj jj) (jgm jj (jk (jk (jk (jk (jk (jk (jk (jk (jk (jg (aZj jj jj) (jQ jj jj (jm jj (jgf jj jj (jgl jj jj jj (jg (bNf jj jj) (jgm jj (jk (jk (jk (jg (aZj jj jj) (jQ jj jj (jm jj (jgf jj jj (jgl jj jj jj (jg (bLf jj jj) (jQ jj jj (jm jj (jgf jj jj (jgl jj jj jj (jgm jj (jg (bSu jj jj w2) (jg (bGf jj jj) (jQ jj jj (jn ?_))))))))))))))))))))))))))))))))))))))))))))))))))))))))))))))))))
    refine jf jj (jp (jr (jm jj (jF jj jj (jl jj jj jj (jS (bAd jj jj w3) (ja jj (jn (jr (jS (bAd jj jj w1) (jm jj (jn ?_))))))))))))
    refine ⟨⟨i + 1, by omega, ⟨hs, by omega, by omega, by omega, by omega⟩, hg, c5⟩, ?_, by dsimp only; omega⟩
    refine Sub.mk ?_ ?_ <;> repeat (first | exact trivial | refine jV jj ?_ | refine jy jj ?_ | refine jw jj (js0 jj) ?_)
   by_cases g1 : (f i).s = -1
   ·have c5 : (f i).s = 1 ∨ (f i).s = -1 := .inr g1
    by_cases c3 : (f i).d < 1
    ·rw [decide_eq_false (key1 i hlt fun h => by have := h.2.2.2.1; omega)]
     refine js (jr (jS (bLt jj jj) (jn (js (jt jj (jp (js (jb (js (jr (jm jj (jS (aZc jj jj hlt hq) (jS (aZg jj jj jj) (jA jj jj jj (ja jj (jP jj jj jj jj (jn (js (js (jr (jF jj jj (jl jj jj jj (jS (bLf jj jj) (jm jj (jgf jj jj (jgl jj jj jj (jg (bGf jj jj) (jQ jj jj (jm jj (jgm jj (jg (bGf jj jj) (jgm jj (jk (jk (jk (jk (jk (jk (jk (jk (jk (jg (aZj jj jj) (jQ jj jj (jm jj (jgf jj jj (jgl jj jj jj (jg (bNt jj jj) (jgm jj (jgf jj jj (jgl jj jj jj (jg (bNf jj jj) (jg (aZn jj jj) (jQ jj jj (jm jj (jgf jj jj (jgl jj jj jj (jg (bLt jj jj) (jQ jj jj (jm jj (jk (jk (jk (jk (jk (jq jj jj (jn ?_))))))))))))))))))))))))))))))))))))))))))))))))))))))))))))))))))
     refine jt jj (js (jr (ja jj (jn (ji ?_)))))
     exact rtT rfl jj
    by_cases c4 : (f i).d > 8 - dsm2 f i
    ·rw [decide_eq_false (key1 i hlt fun h => by have := h.2.2.2.2; omega)]
     refine js (jr (jS (bLt jj jj) (jn (js (jt jj (jp (js (jb (js (jr (jm jj (jS (aZc jj jj hlt hq) (jS (aZg jj jj jj) (jA jj jj jj (ja jj (jP jj jj jj jj (jn (js (js (jr (jF jj jj (jl jj jj jj (jS (bLf jj jj) (jm jj (jgf jj jj (jgl jj jj jj (jg (bGf jj jj) (jQ jj jj (jm jj (jgm jj (jg (bGf jj jj) (jgm jj (jk (jk (jk (jk (jk (jk (jk (jk (jk (jg (aZj jj jj) (jQ jj jj (jm jj (jgf jj jj (jgl jj jj jj (jg (bNt jj jj) (jgm jj (jgf jj jj (jgl jj jj jj (jg (bNf jj jj) (jg (aZn jj jj) (jQ jj jj (jm jj (jgf jj jj (jgl jj jj jj (jg (bLf jj jj) (jQ jj jj (jm jj (jgf jj jj (jgl jj jj jj (jgm jj (jg (bSu jj jj w2) (jg (bGt jj jj) (jQ jj jj (jn ?_))))))))))))))))))))))))))))))))))))))))))))))))))))))))))))))))))
     refine jt jj (js (jr (ja jj (jn (ji ?_)))))
     exact rtT rfl jj
    have w3 : IntKind.i64.wrap (dsm2 f i + (f i).d) = dsm2 f (i + 1) := w64 (by omega) (by omega)
    refine js (jr (jS (bLt jj jj) (jn (js (jt jj (jp (js (jb (js (jr (jm jj (jS (aZc jj jj hlt hq) (jS (aZg jj jj jj) (jA jj jj jj (ja jj (jP jj jj jj jj (jn (js (js (jr (jF jj jj (jl jj jj jj (jS (bLf jj jj) (jm jj (jgf jj jj (jgl jj jj jj (jg (bGf jj jj) (jQ jj jj (jm jj (jgm jj (jg (bGf jj jj) (jgm jj (jk (jk (jk (jk (jk (jk (jk (jk (jk (jg (aZj jj jj) (jQ jj jj (jm jj (jgf jj jj (jgl jj jj jj (jg (bNt jj jj) (jgm jj (jgf jj jj (jgl jj jj jj (jg (bNf jj jj) (jg (aZn jj jj) (jQ jj jj (jm jj (jgf jj jj (jgl jj jj jj (jg (bLf jj jj) (jQ jj jj (jm jj (jgf jj jj (jgl jj jj jj (jgm jj (jg (bSu jj jj w2) (jg (bGf jj jj) (jQ jj jj (jn ?_))))))))))))))))))))))))))))))))))))))))))))))))))))))))))))))))))
    refine jf jj (jp (jr (jm jj (jF jj jj (jl jj jj jj (jS (bAd jj jj w3) (ja jj (jn (jr (jS (bAd jj jj w1) (jm jj (jn ?_))))))))))))
    refine ⟨⟨i + 1, by omega, ⟨hs, by omega, by omega, by omega, by omega⟩, hg, c5⟩, ?_, by dsimp only; omega⟩
    refine Sub.mk ?_ ?_ <;> repeat (first | exact trivial | refine jV jj ?_ | refine jy jj ?_ | refine jw jj (js0 jj) ?_)
   rw [decide_eq_false (key2 i hlt fun h => by have := h.2; omega)]
   refine js (jr (jS (bLt jj jj) (jn (js (jt jj (jp (js (jb (js (jr (jm jj (jS (aZc jj jj hlt hq) (jS (aZg jj jj jj) (jA jj jj jj (ja jj (jP jj jj jj jj (jn (js (js (jr (jF jj jj (jl jj jj jj (jS (bLf jj jj) (jm jj (jgf jj jj (jgl jj jj jj (jg (bGf jj jj) (jQ jj jj (jm jj (jgm jj (jg (bGf jj jj) (jgm jj (jk (jk (jk (jk (jk (jk (jk (jk (jk (jg (aZj jj jj) (jQ jj jj (jm jj (jgf jj jj (jgl jj jj jj (jg (bNt jj jj) (jgm jj (jgf jj jj (jgl jj jj jj (jg (bNt jj jj) (jg (aZn jj jj) (jQ jj jj (jm jj (jk (jk (jk (jq jj jj (jm jj (jk (jk (jk (jk (jk (jq jj jj (jn ?_))))))))))))))))))))))))))))))))))))))))))))))))))))))))))))))))))
   refine jt jj (js (jr (ja jj (jn (ji ?_)))))
   exact rtT rfl jj
  ·have hl2 : i - 1 < n := by omega
   have hq2 : ((rows (ccs f) n).drop ((i - 1) * 5)).take 5 = coc (f (i - 1)) := aZo (aZp f) hl2
   have w4 : IntKind.i64.wrap ((i : Int) - 1) = ((i - 1 : Nat) : Int) := by rw [w64 (by omega) (by omega)]; omega
   have hle := jZM f h0i
   by_cases c1 : (f i).e ≤ (f (i - 1)).e
   ·rw [decide_eq_false (key1 i hlt fun h => by have := h.2.1; omega)]
    refine js (jr (jS (bLt jj jj) (jn (js (jt jj (jp (js (jb (js (jr (jm jj (jS (aZc jj jj hlt hq) (jS (aZg jj jj jj) (jA jj jj jj (ja jj (jP jj jj jj jj (jn (js (js (jr (jF jj jj (jl jj jj jj (jS (bLf jj jj) (jm jj (jgf jj jj (jgl jj jj jj (jg (bGf jj jj) (jQ jj jj (jm jj (jgm jj (jg (bGt jj jj) (jgm jj (jgf jj jj (jgl jj jj jj (jgm jj (jgm jj (jg (bSu jj jj w4) (jg (aZc jj jj hl2 hq2) (jg (aZh jj jj) (jg (aZf jj jj) (jg (bMt jj jj) (jg (aZn jj jj) (jQ jj jj (jm jj (jk (jk (jk (jk (ju (ju (ju (jk (jq jj jj (jm jj (jk (jk (jk (jq jj jj (jm jj (jk (jk (jk (jk (jk (jq jj jj (jn ?_))))))))))))))))))))))))))))))))))))))))))))))))))))))))))))))))))
    refine jt jj (js (jr (ja jj (jn (ji ?_)))))
    exact rtT rfl jj
   by_cases g0 : (f i).s = 1
   ·have c5 : (f i).s = 1 ∨ (f i).s = -1 := .inl g0
    by_cases c3 : (f i).d < 1
    ·rw [decide_eq_false (key1 i hlt fun h => by have := h.2.2.2.1; omega)]
     refine js (jr (jS (bLt jj jj) (jn (js (jt jj (jp (js (jb (js (jr (jm jj (jS (aZc jj jj hlt hq) (jS (aZg jj jj jj) (jA jj jj jj (ja jj (jP jj jj jj jj (jn (js (js (jr (jF jj jj (jl jj jj jj (jS (bLf jj jj) (jm jj (jgf jj jj (jgl jj jj jj (jg (bGf jj jj) (jQ jj jj (jm jj (jgm jj (jg (bGt jj jj) (jgm jj (jgf jj jj (jgl jj jj jj (jgm jj (jgm jj (jg (bSu jj jj w4) (jg (aZc jj jj hl2 hq2) (jg (aZh jj jj) (jg (aZf jj jj) (jg (bMf jj jj) (jg (aZn jj jj) (jQ jj jj (jm jj (jgf jj jj (jgl jj jj jj (jg (bNf jj jj) (jgm jj (jk (jk (jk (jg (aZj jj jj) (jQ jj jj (jm jj (jgf jj jj (jgl jj jj jj (jg (bLt jj jj) (jQ jj jj (jm jj (jk (jk (jk (jk (jk (jq jj jj (jn ?_))))))))))))))))))))))))))))))))))))))))))))))))))))))))))))))))))
     refine jt jj (js (jr (ja jj (jn (ji ?_)))))
     exact rtT rfl jj
    by_cases c4 : (f i).d > 8 - dsm2 f i
    ·rw [decide_eq_false (key1 i hlt fun h => by have := h.2.2.2.2; omega)]
     refine js (jr (jS (bLt jj jj) (jn (js (jt jj (jp (js (jb (js (jr (jm jj (jS (aZc jj jj hlt hq) (jS (aZg jj jj jj) (jA jj jj jj (ja jj (jP jj jj jj jj (jn (js (js (jr (jF jj jj (jl jj jj jj (jS (bLf jj jj) (jm jj (jgf jj jj (jgl jj jj jj (jg (bGf jj jj) (jQ jj jj (jm jj (jgm jj (jg (bGt jj jj) (jgm jj (jgf jj jj (jgl jj jj jj (jgm jj (jgm jj (jg (bSu jj jj w4) (jg (aZc jj jj hl2 hq2) (jg (aZh jj jj) (jg (aZf jj jj) (jg (bMf jj jj) (jg (aZn jj jj) (jQ jj jj (jm jj (jgf jj jj (jgl jj jj jj (jg (bNf jj jj) (jgm jj (jk (jk (jk (jg (aZj jj jj) (jQ jj jj (jm jj (jgf jj jj (jgl jj jj jj (jg (bLf jj jj) (jQ jj jj (jm jj (jgf jj jj (jgl jj jj jj (jgm jj (jg (bSu jj jj w2) (jg (bGt jj jj) (jQ jj jj (jn ?_))))))))))))))))))))))))))))))))))))))))))))))))))))))))))))))))))
     refine jt jj (js (jr (ja jj (jn (ji ?_)))))
     exact rtT rfl jj
    have w3 : IntKind.i64.wrap (dsm2 f i + (f i).d) = dsm2 f (i + 1) := w64 (by omega) (by omega)
    refine js (jr (jS (bLt jj jj) (jn (js (jt jj (jp (js (jb (js (jr (jm jj (jS (aZc jj jj hlt hq) (jS (aZg jj jj jj) (jA jj jj jj (ja jj (jP jj jj jj jj (jn (js (js (jr (jF jj jj (jl jj jj jj (jS (bLf jj jj) (jm jj (jgf jj jj (jgl jj jj jj (jg (bGf jj jj) (jQ jj jj (jm jj (jgm jj (jg (bGt jj jj) (jgm jj (jgf jj jj (jgl jj jj jj (jgm jj (jgm jj (jg (bSu jj jj w4) (jg (aZc jj jj hl2 hq2) (jg (aZh jj jj) (jg (aZf jj jj) (jg (bMf jj jj) (jg (aZn jj jj) (jQ jj jj (jm jj (jgf jj jj (jgl jj jj jj (jg (bNf jj jj) (jgm jj (jk (jk (jk (jg (aZj jj jj) (jQ jj jj (jm jj (jgf jj jj (jgl jj jj jj (jg (bLf jj jj) (jQ jj jj (jm jj (jgf jj jj (jgl jj jj jj (jgm jj (jg (bSu jj jj w2) (jg (bGf jj jj) (jQ jj jj (jn ?_))))))))))))))))))))))))))))))))))))))))))))))))))))))))))))))))))
    refine jf jj (jp (jr (jm jj (jF jj jj (jl jj jj jj (jS (bAd jj jj w3) (ja jj (jn (jr (jS (bAd jj jj w1) (jm jj (jn ?_))))))))))))
    refine ⟨⟨i + 1, by omega, ⟨hs, by omega, by omega, by omega, by omega⟩, hg, c5⟩, ?_, by dsimp only; omega⟩
    refine Sub.mk ?_ ?_ <;> repeat (first | exact trivial | refine jV jj ?_ | refine jy jj ?_ | refine jw jj (js0 jj) ?_)
   by_cases g1 : (f i).s = -1
   ·have c5 : (f i).s = 1 ∨ (f i).s = -1 := .inr g1
    by_cases c3 : (f i).d < 1
    ·rw [decide_eq_false (key1 i hlt fun h => by have := h.2.2.2.1; omega)]
     refine js (jr (jS (bLt jj jj) (jn (js (jt jj (jp (js (jb (js (jr (jm jj (jS (aZc jj jj hlt hq) (jS (aZg jj jj jj) (jA jj jj jj (ja jj (jP jj jj jj jj (jn (js (js (jr (jF jj jj (jl jj jj jj (jS (bLf jj jj) (jm jj (jgf jj jj (jgl jj jj jj (jg (bGf jj jj) (jQ jj jj (jm jj (jgm jj (jg (bGt jj jj) (jgm jj (jgf jj jj (jgl jj jj jj (jgm jj (jgm jj (jg (bSu jj jj w4) (jg (aZc jj jj hl2 hq2) (jg (aZh jj jj) (jg (aZf jj jj) (jg (bMf jj jj) (jg (aZn jj jj) (jQ jj jj (jm jj (jgf jj jj (jgl jj jj jj (jg (bNt jj jj) (jgm jj (jgf jj jj (jgl jj jj jj (jg (bNf jj jj) (jg (aZn jj jj) (jQ jj jj (jm jj (jgf jj jj (jgl jj jj jj (jg (bLt jj jj) (jQ jj jj (jm jj (jk (jk (jk (jk (jk (jq jj jj (jn ?_))))))))))))))))))))))))))))))))))))))))))))))))))))))))))))))))))
     refine jt jj (js (jr (ja jj (jn (ji ?_)))))
     exact rtT rfl jj
    by_cases c4 : (f i).d > 8 - dsm2 f i
    ·rw [decide_eq_false (key1 i hlt fun h => by have := h.2.2.2.2; omega)]
     refine js (jr (jS (bLt jj jj) (jn (js (jt jj (jp (js (jb (js (jr (jm jj (jS (aZc jj jj hlt hq) (jS (aZg jj jj jj) (jA jj jj jj (ja jj (jP jj jj jj jj (jn (js (js (jr (jF jj jj (jl jj jj jj (jS (bLf jj jj) (jm jj (jgf jj jj (jgl jj jj jj (jg (bGf jj jj) (jQ jj jj (jm jj (jgm jj (jg (bGt jj jj) (jgm jj (jgf jj jj (jgl jj jj jj (jgm jj (jgm jj (jg (bSu jj jj w4) (jg (aZc jj jj hl2 hq2) (jg (aZh jj jj) (jg (aZf jj jj) (jg (bMf jj jj) (jg (aZn jj jj) (jQ jj jj (jm jj (jgf jj jj (jgl jj jj jj (jg (bNt jj jj) (jgm jj (jgf jj jj (jgl jj jj jj (jg (bNf jj jj) (jg (aZn jj jj) (jQ jj jj (jm jj (jgf jj jj (jgl jj jj jj (jg (bLf jj jj) (jQ jj jj (jm jj (jgf jj jj (jgl jj jj jj (jgm jj (jg (bSu jj jj w2) (jg (bGt jj jj) (jQ jj jj (jn ?_))))))))))))))))))))))))))))))))))))))))))))))))))))))))))))))))))
     refine jt jj (js (jr (ja jj (jn (ji ?_)))))
     exact rtT rfl jj
    have w3 : IntKind.i64.wrap (dsm2 f i + (f i).d) = dsm2 f (i + 1) := w64 (by omega) (by omega)
    refine js (jr (jS (bLt jj jj) (jn (js (jt jj (jp (js (jb (js (jr (jm jj (jS (aZc jj jj hlt hq) (jS (aZg jj jj jj) (jA jj jj jj (ja jj (jP jj jj jj jj (jn (js (js (jr (jF jj jj (jl jj jj jj (jS (bLf jj jj) (jm jj (jgf jj jj (jgl jj jj jj (jg (bGf jj jj) (jQ jj jj (jm jj (jgm jj (jg (bGt jj jj) (jgm jj (jgf jj jj (jgl jj jj jj (jgm jj (jgm jj (jg (bSu jj jj w4) (jg (aZc jj jj hl2 hq2) (jg (aZh jj jj) (jg (aZf jj jj) (jg (bMf jj jj) (jg (aZn jj jj) (jQ jj jj (jm jj (jgf jj jj (jgl jj jj jj (jg (bNt jj jj) (jgm jj (jgf jj jj (jgl jj jj jj (jg (bNf jj jj) (jg (aZn jj jj) (jQ jj jj (jm jj (jgf jj jj (jgl jj jj jj (jg (bLf jj jj) (jQ jj jj (jm jj (jgf jj jj (jgl jj jj jj (jgm jj (jg (bSu jj jj w2) (jg (bGf jj jj) (jQ jj jj (jn ?_))))))))))))))))))))))))))))))))))))))))))))))))))))))))))))))))))
    refine jf jj (jp (jr (jm jj (jF jj jj (jl jj jj jj (jS (bAd jj jj w3) (ja jj (jn (jr (jS (bAd jj jj w1) (jm jj (jn ?_))))))))))))
    refine ⟨⟨i + 1, by omega, ⟨hs, by omega, by omega, by omega, by omega⟩, hg, c5⟩, ?_, by dsimp only; omega⟩
    refine Sub.mk ?_ ?_ <;> repeat (first | exact trivial | refine jV jj ?_ | refine jy jj ?_ | refine jw jj (js0 jj) ?_)
   rw [decide_eq_false (key2 i hlt fun h => by have := h.2; omega)]
   refine js (jr (jS (bLt jj jj) (jn (js (jt jj (jp (js (jb (js (jr (jm jj (jS (aZc jj jj hlt hq) (jS (aZg jj jj jj) (jA jj jj jj (ja jj (jP jj jj jj jj (jn (js (js (jr (jF jj jj (jl jj jj jj (jS (bLf jj jj) (jm jj (jgf jj jj (jgl jj jj jj (jg (bGf jj jj) (jQ jj jj (jm jj (jgm jj (jg (bGt jj jj) (jgm jj (jgf jj jj (jgl jj jj jj (jgm jj (jgm jj (jg (bSu jj jj w4) (jg (aZc jj jj hl2 hq2) (jg (aZh jj jj) (jg (aZf jj jj) (jg (bMf jj jj) (jg (aZn jj jj) (jQ jj jj (jm jj (jgf jj jj (jgl jj jj jj (jg (bNt jj jj) (jgm jj (jgf jj jj (jgl jj jj jj (jg (bNt jj jj) (jg (aZn jj jj) (jQ jj jj (jm jj (jk (jk (jk (jq jj jj (jm jj (jk (jk (jk (jk (jk (jq jj jj (jn ?_))))))))))))))))))))))))))))))))))))))))))))))))))))))))))))))))))
   refine jt jj (js (jr (ja jj (jn (ji ?_)))))
   exact rtT rfl jj
 ·have hin : i = n := by omega
  subst hin
  by_cases hn0 : i = 0
  ·rw [decide_eq_false (fun h : ordP f i => h.1 hn0)]
   have : dsm2 f i = 0 := by rw [hn0]; rfl
   refine js (jr (jS (bLf jj jj) (jn (js (jf jj (je (js (jr (jm jj (jS (bGf jj jj) (ja jj (jn (ji ?_)))))))))))))
   exact rtT rfl jj
  ·rw [decide_eq_true (show ordP f i from ⟨hn0, hs, hg⟩)]
   refine js (jr (jS (bLf jj jj) (jn (js (jf jj (je (js (jr (jm jj (jS (bGt jj jj) (ja jj (jn (ji ?_)))))))))))))
   exact rtT rfl jj
end
end Go.Proofs.YtdieokoenhncfaaGreatDoor

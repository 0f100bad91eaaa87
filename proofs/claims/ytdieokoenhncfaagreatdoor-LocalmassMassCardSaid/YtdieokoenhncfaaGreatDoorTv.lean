/- Groups of indices: the reference's trains. (With LT.skipU.) -/
import Derived.Test.YtdieokoenhncfaaGreatDoorMem
import Derived.Test.YtdieokoenhncfaaGreatDoorTs
import Derived.Test.YtdieokoenhncfaaGreatDoorTi
import Derived.Test.YtdieokoenhncfaaGreatDoorTm
set_option maxRecDepth 3000
namespace Go.Proofs.YtdieokoenhncfaaGreatDoor
open Go.RowKit Limb Num
instance cbody144 : CBody Tryz.prog 144 := ⟨⟨_, Tryz.func144, rfl, by rfl⟩⟩
set_option maxHeartbeats 4000000 in
theorem rchains (En : Ev) (f : Nat → Co) (n : Nat) (H : Shp f n) (hy : ∀ i, i < n → 0 ≤ (f i).y ∧ (f i).y ≤ 7) : Fn Tryz.prog En 144 [slc 5 (rows (ccs f) n) n] (bZl (chn f n)) := by
 have hn := H.n20
 unfold chn
 obtain ⟨b, hb⟩ : ∃ b : Nat → Bool, b = fun _ => true := ⟨_, rfl⟩
 obtain ⟨j, hj⟩ : ∃ j : Nat → Bool, j = lnk f n := ⟨_, rfl⟩
 rw [← hb, ← hj]
 refine aZb Tryz.func144 rfl Tryz.ntmps144 rfl ?_
 intro w0 h0
 refine js (jr (ja jj (jn (js (jr (ja jj (jn (js (js (jr (jm jj (jE jj (jm jj (jn (jb ?_)))))))))))))))
 refine WpD.sub (τ := ⟨[(0, .one (slc 5 (rows (ccs f) n) n)), (3, .app 503 1 0), (5, .one (slc 5 (rows (ccs f) n) n)), (6, .one (ex (.int .i64 (n : Int)))), (7, .one (ex (.int .i64 ((0 : Nat) : Int))))], [(503, []), (753, []), (543, []), (793, [])]⟩) ?_ ?_
 ·refine Sub.mk ?_ ?_ <;> repeat (first | exact trivial | refine jV jj ?_ | refine jy jj ?_ | refine jw jj (js0 jj) ?_ | refine jz ?_ | refine jw jj ⟨js0 jj, js0 jj⟩ ?_ | refine jx jj ⟨js0 jj, js0 jj⟩ ?_)
 refine WpD.pin (t := 1) (b := 793) rfl (Option.some_ne_none _) fun xx0 => ?_
 refine WpD.pin (t := 2) (b := 543) rfl (Option.some_ne_none _) fun blk0 => ?_
 refine WpD.loop (α := {q : Nat × Nat × Nat × Nat // q.1 ≤ n ∧ (0 < (grps b j q.1).2.length → (grps b j q.1).2.length ≤ q.2.2.1 ∧ q.2.2.1 ≤ maxLen ∧ q.2.2.2 = q.2.2.1 * 1)}) (fun q => ⟨[(1, .pin 793 q.1.2.2.2), (2, .pin 543 q.1.2.1), (3, .app 503 1 (allG (grps b j q.1.1)).length), (0, .one (slc 5 (rows (ccs f) n) n)), (5, .one (slc 5 (rows (ccs f) n) n)), (6, .one (ex (.int .i64 (n : Int)))), (7, .one (ex (.int .i64 (q.1.1 : Int))))], [(503, gcs (grps b j q.1.1).1 (grps b j q.1.1).2 q.1.2.1 q.1.2.2.1), (753, []), (543, ixP (grps b j q.1.1).2), (793, [])]⟩) (fun q => n - q.1.1) ⟨(0, blk0, 0, xx0), Nat.zero_le _, fun h => absurd h (Nat.lt_irrefl 0)⟩ ?_ ?_
 ·dsimp only
  refine Sub.mk ?_ ?_ <;> repeat (first | exact trivial | refine jV jj ?_ | refine jy jj ?_ | refine jw jj (js0 jj) ?_ | refine jz ?_ | refine jw jj ⟨js0 jj, js0 jj⟩ ?_ | refine jx jj ⟨js0 jj, js0 jj⟩ ?_)
 rintro ⟨⟨i, blk, cap, xx⟩, hi, hcap⟩
 dsimp only at hi hcap ⊢
 by_cases hlt : i < n
 ·have w1 := wS i (by omega)
  have hbi : b i = true := by rw [hb]
  by_cases htriv : True
  ·obtain ⟨g1, g2⟩ := bZ2 b j i
   refine js (jr (jS (bLt jj jj) (jn (js (jt jj (jp (js (jb (js (jr (jm jj (ja jj (jn ?_)))))))))))))
   refine WpD.cut (α := {v : Bool // v = (decide (0 < i) && b (i - 1) && j i)}) (fun v => ⟨[(1, .pin 793 xx), (2, .pin 543 blk), (3, .app 503 1 (allG (grps b j i)).length), (4, .one (ex (.int .i64 (i : Int)))), (0, .one (slc 5 (rows (ccs f) n) n)), (5, .one (slc 5 (rows (ccs f) n) n)), (6, .one (ex (.int .i64 (n : Int)))), (7, .one (ex (.int .i64 (i : Int)))), (16, .one (ex (.bool v.1)))], [(503, gcs (grps b j i).1 (grps b j i).2 blk cap), (753, []), (543, ixP (grps b j i).2), (793, [])]⟩) ?_ ?_
   ·by_cases hi0 : i = 0
    ·repeat (first | apply js | apply jb)
     refine jr (jm jj (jS (bGf jj jj (by omega)) (jm jj ?_)))
     first | refine jgm jj ?_ | refine jk ?_ | refine ju ?_
     first | refine jgm jj ?_ | refine jk ?_ | refine ju ?_
     first | refine jg (aZa missing_contract ⟨jj, jj, trivial⟩) ?_ | refine jk ?_ | refine ju ?_
     first | refine jq jj jj ?_ | refine jQ jj jj ?_
     refine jn ?_
     refine ⟨⟨false, by rw [decide_eq_false (show ¬ 0 < i by omega)]; rfl⟩, ?_⟩
     refine Sub.mk ?_ ?_ <;> repeat (first | exact trivial | refine jV jj ?_ | refine jy jj ?_ | refine jw jj (js0 jj) ?_ | refine jz ?_ | refine jw jj ⟨js0 jj, js0 jj⟩ ?_ | refine jx jj ⟨js0 jj, js0 jj⟩ ?_)
    ·have L1 := jZo En f n i H hy hlt (by omega)
     rw [← hj] at L1
     repeat (first | apply js | apply jb)
     refine jr (jm jj (jS (bGt jj jj (by omega)) (jm jj ?_)))
     first | refine jgm jj ?_ | refine jk ?_ | refine ju ?_
     first | refine jgm jj ?_ | refine jk ?_ | refine ju ?_
     first | refine jg (aZa L1 ⟨jj, jj, trivial⟩) ?_ | refine jk ?_ | refine ju ?_
     first | refine jq jj jj ?_ | refine jQ jj jj ?_
     refine jn ?_
     refine ⟨⟨j i, by rw [decide_eq_true (show 0 < i by omega), hb]; simp⟩, ?_⟩
     refine Sub.mk ?_ ?_ <;> repeat (first | exact trivial | refine jV jj ?_ | refine jy jj ?_ | refine jw jj (js0 jj) ?_ | refine jz ?_ | refine jw jj ⟨js0 jj, js0 jj⟩ ?_ | refine jx jj ⟨js0 jj, js0 jj⟩ ?_)
   rintro ⟨v, hv⟩
   dsimp only
   cases v with
   | true =>
    have hv : 0 < i ∧ b (i - 1) = true ∧ j i = true := by simp at hv; exact ⟨hv.1.1, hv.1.2, hv.2⟩
    have hne : (grps b j i).2 ≠ [] := by have := gZM (b := b) (j := j) hv.2.1; rwa [show i - 1 + 1 = i by omega] at this
    have e1 : grps b j (i + 1) = ((grps b j i).1, (grps b j i).2 ++ [i]) := by rw [grps, if_neg (by rw [hbi]; decide), if_pos hv]
    generalize grps b j i = G at *
    obtain ⟨I, l⟩ := G
    cases l with
    | nil => exact absurd rfl hne
    | cons a t =>
    have hG : (allG (I, a :: t)).length = I.length + 1 := by unfold allG; simp
    rw [hG] at g1 ⊢
    dsimp only at g2 hcap e1 ⊢
    have g2 : t.length + 1 ≤ i := g2
    have w3 : IntKind.i64.wrap (((I.length + 1 : Nat) : Int) - 1) = ((I.length : Nat) : Int) := by rw [w64 (by omega) (by omega)]; omega
    have hget : (gcs I (a :: t) blk cap)[I.length]? = some (ex (gvl blk (a :: t).length cap)) := by
     unfold gcs
     rw [List.getElem?_append_right (by simp)]
     simp
    have hlen : (ixP (a :: t)).length = (a :: t).length * 1 := cZv _
    have hr : ixP (a :: t) ++ [ex (.int .i64 (i : Int))] = ixP ((a :: t) ++ [i]) := by unfold ixP; simp
    repeat (first | apply js | apply jb)
    refine WpD.condT rfl ?_
    repeat (first | apply js | apply jb)
    refine WpD.seqR ?_
    refine WpS.S rfl rfl (aZK rfl) rfl ?_
    refine WpS.S rfl rfl (aZK rfl) rfl ?_
    refine WpS.S rfl rfl (cZ1 rfl CSlice.ok) rfl ?_
    refine WpS.S rfl rfl (aZd rfl rfl (fun w => aZQ w _ _ _ _ _ _) (vint w3)) rfl ?_
    refine WpS.S rfl rfl (aZK rfl) rfl ?_
    refine WpS.S rfl rfl (aZK rfl) rfl ?_
    refine WpS.S rfl rfl (cZ1 rfl CSlice.ok) rfl ?_
    refine WpS.S rfl rfl (aZd rfl rfl (fun w => aZQ w _ _ _ _ _ _) (vint w3)) rfl ?_
    refine WpS.S rfl rfl (bZ5 rfl rfl (by omega) (Nat.mul_one I.length)) rfl ?_
    refine WpS.S rfl rfl (aZt rfl rfl hget) rfl ?_
    refine WpS.S rfl rfl (aZK rfl) rfl ?_
    refine WpS.S rfl rfl (aZE (ps := [(_, _)]) ⟨rfl, Part.c rfl, trivial⟩ rfl rfl rfl) rfl ?_
    refine WpS.sub (Sub.toApp (t := 26) (p := 2) (q := 1) (b := 543) (k := 1) (blk := blk) (len := (a :: t).length) (cap := cap) (x := xx) rfl rfl rfl hcap) ?_
    refine WpS.S rfl rfl (aZN 544 rfl rfl hlen rfl (by omega) (by simp; omega) rfl rfl rfl rfl rfl hr) rfl ?_
    refine WpS.sub (τ := ⟨[(0, .one (slc 5 (rows (ccs f) n) n)), (5, .one (slc 5 (rows (ccs f) n) n)), (6, .one (ex (.int .i64 (n : Int)))), (7, .one (ex (.int .i64 (i : Int)))), (3, .app 503 1 (I.length + 1)), (17, .app 503 1 (I.length + 1)), (20, .one (ex (.int .i64 ((I.length : Nat) : Int)))), (29, .app 543 1 ((a :: t).length + 1))], [(503, gcs I (a :: t) blk cap), (753, []), (543, ixP ((a :: t) ++ [i])), (793, [])]⟩) (Sub.ren 543 544 rfl ?_ ?_ rfl) ?_
    ·repeat (first | exact trivial | refine ⟨.inl ⟨⟨_, rfl, PLe.refl _⟩, trivial, trivial⟩, ?_⟩ | refine ⟨.inr ⟨_, _, rfl, .inl rfl, ⟨Option.some_ne_none _, Option.some_ne_none _⟩⟩, ?_⟩ | refine ⟨.inl ⟨⟨_, rfl, rfl⟩, Option.some_ne_none _, ⟨(by decide), (by decide)⟩⟩, ?_⟩ | refine ⟨.inl ⟨⟨_, rfl, rfl⟩, ⟨Option.some_ne_none _, Option.some_ne_none _⟩, ⟨(by decide), (by decide), (by decide), (by decide)⟩⟩, ?_⟩)
    ·repeat (first | exact trivial | refine ⟨.inr ⟨(by decide), .inr rfl⟩, ?_⟩ | refine ⟨.inl ⟨rfl, _, rfl, PsLe.refl _⟩, ?_⟩ | refine ⟨.inr ⟨(by decide), .inl ⟨(by decide), _, rfl, PsLe.refl _⟩⟩, ?_⟩)
    refine WpS.fromApp (t := 29) (p := 2) (q := 1) rfl rfl rfl (by simp) fun blk' cap' xx' hc' => ?_
    have hset : (gcs I (a :: t) blk cap).set I.length (ex (gvl blk' ((a :: t).length + 1) cap')) = gcs I ((a :: t) ++ [i]) blk' cap' := by
     unfold gcs
     rw [List.set_append_right _ _ (by simp)]
     simp
    refine WpS.S rfl rfl (bZ5 rfl rfl (by omega) (Nat.mul_one I.length)) rfl ?_
    refine WpS.N rfl (aZz rfl rfl rfl (by rw [gZO, hG]; omega) hset) rfl ?_
    refine WpS.nil ?_
    repeat (first | apply js | apply jb)
    refine jr (jS (bAd jj jj w1) (jm jj (jn ?_)))
    refine ⟨⟨(i + 1, blk', cap', xx'), by dsimp only; omega, by dsimp only; rw [e1]; exact fun _ => by simpa using hc'⟩, ?_, by dsimp only; omega⟩
    dsimp only
    rw [e1, show (allG (I, a :: t ++ [i])).length = I.length + 1 by unfold allG; simp]
    refine Sub.mk ?_ ?_ <;> repeat (first | exact trivial | refine jV jj ?_ | refine jy jj ?_ | refine jw jj (js0 jj) ?_ | refine jz ?_ | refine jw jj ⟨js0 jj, js0 jj⟩ ?_ | refine jx jj ⟨js0 jj, js0 jj⟩ ?_)
   | false =>
    have hv : ¬ (0 < i ∧ b (i - 1) = true ∧ j i = true) := by rintro ⟨h1, h2, h3⟩; rw [h2, h3, decide_eq_true h1] at hv; cases hv
    have e1 : grps b j (i + 1) = (allG (grps b j i), [i]) := by rw [grps, if_neg (by rw [hbi]; decide), if_neg hv]; rfl
    repeat (first | apply js | apply jb)
    refine WpD.condF rfl ?_
    refine WpD.sub (τ := ⟨[(3, .app 503 1 (allG (grps b j i)).length), (4, .one (ex (.int .i64 (i : Int)))), (0, .one (slc 5 (rows (ccs f) n) n)), (5, .one (slc 5 (rows (ccs f) n) n)), (6, .one (ex (.int .i64 (n : Int)))), (7, .one (ex (.int .i64 (i : Int))))], [(503, (allG (grps b j i)).map gP), (753, [])]⟩) ?_ ?_
    ·have hfst := bZ1 (b := b) (j := j) (i := i)
     generalize grps b j i = G at *
     obtain ⟨I, l⟩ := G
     cases l with
     | nil =>
      have hI : I = [] := hfst rfl
      subst hI
      refine Sub.mk ?_ ?_ <;> repeat (first | exact trivial | refine jV jj ?_ | refine jy jj ?_ | refine jw jj (js0 jj) ?_ | refine jz ?_ | refine jw jj ⟨js0 jj, js0 jj⟩ ?_ | refine jx jj ⟨js0 jj, js0 jj⟩ ?_)
     | cons a t =>
      have hA : allG (I, a :: t) = I ++ [a :: t] := by unfold allG; simp
      obtain ⟨q1, q2, _⟩ := hcap (by simp)
      have hm : (I ++ [a :: t]).map gP = I.map gP ++ [slc 1 (ixP (a :: t)) (a :: t).length] := by simp [gP]
      rw [hA, hm]
      refine Sub.pubLast (b := 543) (d := 503) (p := 2) (k := 1) (len := (a :: t).length) (cap := cap) (blk := blk) (L := I.map gP) (sl := [(3, .app 503 1 (I ++ [a :: t]).length), (4, .one (ex (.int .i64 (i : Int)))), (0, .one (slc 5 (rows (ccs f) n) n)), (5, .one (slc 5 (rows (ccs f) n) n)), (6, .one (ex (.int .i64 (n : Int)))), (7, .one (ex (.int .i64 (i : Int))))]) (bx0 := [(503, I.map gP ++ [ex (gvl blk (a :: t).length cap)]), (753, [])]) rfl rfl (cZv _) rfl rfl (by simp) q1 q2 ?_ rfl ?_ |>.trans ?_
      ·exact ⟨.inl ⟨_, rfl, PsLe.refl _⟩, .inl ⟨_, rfl, PsLe.refl _⟩, trivial⟩
      ·repeat (first | exact trivial | refine jv rfl ?_ | refine jw rfl (js0 rfl) ?_ | refine jw rfl ⟨js0 rfl, js0 rfl⟩ ?_)
      ·refine Sub.mk ?_ ?_ <;> repeat (first | exact trivial | refine jV jj ?_ | refine jy jj ?_ | refine jw jj (js0 jj) ?_ | refine jz ?_ | refine jw jj ⟨js0 jj, js0 jj⟩ ?_ | refine jx jj ⟨js0 jj, js0 jj⟩ ?_)
    generalize hA : allG (grps b j i) = A at *
    have hlen : (A.map gP).length = A.length * 1 := by simp
    repeat (first | apply js | apply jb)
    refine WpD.seqR ?_
    refine WpS.S rfl rfl (aZK rfl) rfl ?_
    refine WpS.S rfl rfl (aZK rfl) rfl ?_
    refine WpS.S rfl rfl (dZW 543 (ps := [(_, _)]) ⟨rfl, Part.c rfl, trivial⟩ rfl rfl rfl rfl rfl rfl) rfl ?_
    refine WpS.fromApp (t := 33) (p := 2) (q := 1) rfl rfl rfl (by omega) fun blk' cap' xx' hc' => ?_
    refine WpS.S rfl rfl (aZE (ps := [(_, _)]) ⟨rfl, Part.c rfl, trivial⟩ rfl rfl rfl) rfl ?_
    refine WpS.S rfl rfl (aZN 556 rfl rfl hlen rfl (by omega) (by omega) rfl rfl rfl rfl rfl rfl) rfl ?_
    refine WpS.S rfl rfl (dZc rfl) rfl ?_
    refine WpS.sub (τ := ⟨[(1, .pin 793 xx'), (2, .pin 543 blk'), (3, .app 503 1 (A.length + 1)), (0, .one (slc 5 (rows (ccs f) n) n)), (5, .one (slc 5 (rows (ccs f) n) n)), (6, .one (ex (.int .i64 (n : Int)))), (7, .one (ex (.int .i64 (i : Int))))], [(503, A.map gP ++ [ex (gvl blk' 1 cap')]), (753, []), (543, [ex (.int .i64 (i : Int))]), (793, [])]⟩) (Sub.ren 503 556 rfl ?_ ?_ rfl) ?_
    ·repeat (first | exact trivial | refine ⟨.inl ⟨⟨_, rfl, PLe.refl _⟩, trivial, trivial⟩, ?_⟩ | refine ⟨.inr ⟨_, _, rfl, .inl rfl, ⟨Option.some_ne_none _, Option.some_ne_none _⟩⟩, ?_⟩ | refine ⟨.inl ⟨⟨_, rfl, rfl⟩, Option.some_ne_none _, ⟨(by decide), (by decide)⟩⟩, ?_⟩ | refine ⟨.inl ⟨⟨_, rfl, rfl⟩, ⟨Option.some_ne_none _, Option.some_ne_none _⟩, ⟨(by decide), (by decide), (by decide), (by decide)⟩⟩, ?_⟩)
    ·repeat (first | exact trivial | refine ⟨.inr ⟨(by decide), .inr rfl⟩, ?_⟩ | refine ⟨.inl ⟨rfl, _, rfl, PsLe.refl _⟩, ?_⟩ | refine ⟨.inr ⟨(by decide), .inl ⟨(by decide), _, rfl, PsLe.refl _⟩⟩, ?_⟩)
    refine WpS.nil ?_
    repeat (first | apply js | apply jb)
    refine jr (jS (bAd jj jj w1) (jm jj (jn ?_)))
    refine ⟨⟨(i + 1, blk', cap', xx'), by dsimp only; omega, by dsimp only; rw [e1]; exact fun _ => by simpa using hc'⟩, ?_, by dsimp only; omega⟩
    dsimp only
    rw [e1, show (allG (A, [i])).length = A.length + 1 by unfold allG; simp]
    refine Sub.mk ?_ ?_ <;> repeat (first | exact trivial | refine jV jj ?_ | refine jy jj ?_ | refine jw jj (js0 jj) ?_ | refine jz ?_ | refine jw jj ⟨js0 jj, js0 jj⟩ ?_ | refine jx jj ⟨js0 jj, js0 jj⟩ ?_)
  ·exact absurd trivial htriv
 ·have : i = n := by omega
  subst this
  have hfst := bZ1 (b := b) (j := j) (i := i)
  unfold bZl
  refine js (jr (jS (bLf jj jj) (jn (js (jf jj (je ?_))))))
  refine WpD.sub (τ := ⟨[(3, .one (slc 1 ((allG (grps b j i)).map gP) (allG (grps b j i)).length))], []⟩) ?_ ?_
  ·generalize grps b j i = G at *
   obtain ⟨I, l⟩ := G
   cases l with
   | nil =>
    have hI : I = [] := hfst rfl
    subst hI
    exact Sub.pub 503 rfl rfl ⟨.inr (.inr (.inl ⟨_, _, _, rfl, rfl, rfl, PLe.refl _⟩)), trivial⟩ trivial rfl
   | cons a t =>
    have hA : allG (I, a :: t) = I ++ [a :: t] := by unfold allG; simp
    obtain ⟨q1, q2, _⟩ := hcap (by simp)
    have hm : (I ++ [a :: t]).map gP = I.map gP ++ [slc 1 (ixP (a :: t)) (a :: t).length] := by simp [gP]
    have hl2 : (I.map gP ++ [slc 1 (ixP (a :: t)) (a :: t).length]).length = (I ++ [a :: t]).length * 1 := by simp
    rw [hA, hm]
    refine (Sub.pubLast (b := 543) (d := 503) (p := 2) (k := 1) (len := (a :: t).length) (cap := cap) (blk := blk) (L := I.map gP) (sl := [(3, .app 503 1 (I ++ [a :: t]).length)]) (bx0 := [(503, I.map gP ++ [ex (gvl blk (a :: t).length cap)]), (753, [])]) rfl rfl (cZv _) rfl rfl (by simp) q1 q2 ⟨.inl ⟨_, rfl, PsLe.refl _⟩, .inl ⟨_, rfl, PsLe.refl _⟩, trivial⟩ rfl ?_).trans ?_
    ·repeat (first | exact trivial | refine jv rfl ?_ | refine jw rfl (js0 rfl) ?_ | refine jw rfl ⟨js0 rfl, js0 rfl⟩ ?_)
    ·exact Sub.pub 503 rfl rfl ⟨.inr (.inr (.inl ⟨_, _, _, rfl, rfl, hl2, PLe.refl _⟩)), trivial⟩ trivial rfl
  repeat (first | apply js | apply jb)
  refine jr (jm jj (ja jj (jn (ji ?_))))
  exact rtT rfl jj
end Go.Proofs.YtdieokoenhncfaaGreatDoor
/- Signs only at the heads of trains: the reference's First, the program's IsCanonical up to Refine. (With LT.skipU.) -/
namespace Go.Proofs.YtdieokoenhncfaaGreatDoor
open Go.RowKit Limb Num
instance cbody111 : CBody Tryz.prog 111 := ⟨⟨_, Tryz.func111, rfl, by rfl⟩⟩
instance cbody53 : CBody Tryz.prog 53 := ⟨⟨_, Tryz.func53, rfl, by rfl⟩⟩
def fiP (f : Nat → Co) (G : List (List Nat)) : Prop := ∀ g ∈ G, ∀ k ∈ g.drop 1, (f k).s ≠ -1
instance (f : Nat → Co) (G : List (List Nat)) : Decidable (fiP f G) := by unfold fiP; infer_instance
theorem hZQ {f : Nat → Co} {g : List Nat} {G : List (List Nat)} : fiP f (g :: G) ↔ (∀ k ∈ g.drop 1, (f k).s ≠ -1) ∧ fiP f G := by unfold fiP; simp
theorem mZT {f : Nat → Co} {n : Nat} : ∀ g ∈ chn f n, g ≠ [] := fun g hg => fZB g hg
section
variable (En : Ev)
set_option maxHeartbeats 1000000 in
theorem rfirst (p : Int) (f : Nat → Co) (n : Nat) (H : Shp f n) (hy : ∀ i, i < n → 0 ≤ (f i).y ∧ (f i).y ≤ 7) : Fn Tryz.prog En 111 [locP p f n] (ex (.bool (decide (fiP f (chn f n))))) := by
 have C1 := rchains En f n H hy
 have hn := H.n20
 have hGi : ∀ g ∈ chn f n, g.length ≤ 20 := fun g hg => Nat.le_trans (bZY g hg) hn
 have hGt : ∀ g ∈ chn f n, ∀ k ∈ g, k < n := fun g hg => bZX g hg
 have hl : (chn f n).length ≤ 20 := Nat.le_trans (bZ2 _ _ _).1 hn
 unfold locP bZl at *
 refine aZb Tryz.func111 rfl Tryz.ntmps111 rfl ?_
 intro w0 h0
 refine js (jr (jB jj jj jj (ja jj (jn (js (js (jr (jF jj jj (jl jj jj jj (jS (aZa C1 ⟨jj, trivial⟩) (jE jj (jm jj (jn (jb ?_))))))))))))))
 refine WpD.loop (α := {k : Nat // k ≤ (chn f n).length ∧ (fiP f (chn f n) ↔ fiP f ((chn f n).drop k))}) (fun k => ⟨[(1, .ptr 1 0), (9, .one (slc 1 ((chn f n).map gP) (chn f n).length)), (10, .one (ex (.int .i64 ((chn f n).length : Int)))), (11, .one (ex (.int .i64 (k.1 : Int))))], [(1, [ex (.int .i64 p), slc 5 (rows (ccs f) n) n])]⟩) (fun k => (chn f n).length - k.1) ⟨0, Nat.zero_le _, Iff.rfl⟩ ?_ ?_
 ·refine Sub.mk ?_ ?_ <;> repeat (first | exact trivial | refine jV jj ?_ | refine jy jj ?_ | refine jw jj (js0 jj) ?_)
 rintro ⟨k, hk, he⟩
 dsimp only at hk he ⊢
 by_cases hlt : k < (chn f n).length
 ·have hq := dZo hlt
  have w1 := wS k (by omega)
  have hmem := gmem [] hlt
  rw [aZY (d := []) hlt, hZQ] at he
  have n1 := hGi _ hmem
  have n2 := hGt _ hmem
  have n3 := mZT _ hmem
  generalize (chn f n).getD k [] = g at *
  obtain ⟨a, t, rfl⟩ : ∃ a t, g = a :: t := by
   cases g with
   | nil => exact absurd rfl n3
   | cons a t => exact ⟨a, t, rfl⟩
  rw [show (a :: t).drop 1 = t from rfl] at he
  have hdr : (ixP (a :: t)).drop (1 * 1) = ixP t := rfl
  have h1l : 1 ≤ (a :: t).length := by simp
  unfold gP at hq
  refine js (jr (jS (bLt jj jj) (jn (js (jt jj (jp (js (jb (js (jr (jS (aZc jj jj hlt hq) (jS (aZf jj jj) (ja jj (jn (js (jr (jm jj (jS (cZi (j := 1) jj jj h1l hdr) (jE jj (jm jj (jn (jb ?_))))))))))))))))))))))
  rw [show (a :: t).length - 1 = t.length from rfl]
  refine WpD.loop (α := {j : Nat // j ≤ t.length ∧ ((∀ k ∈ t, (f k).s ≠ -1) ↔ (∀ k ∈ t.drop j, (f k).s ≠ -1))}) (fun j => ⟨[(1, .ptr 1 0), (9, .one (slc 1 ((chn f n).map gP) (chn f n).length)), (10, .one (ex (.int .i64 ((chn f n).length : Int)))), (11, .one (ex (.int .i64 (k : Int)))), (16, .one (slc 1 (ixP t) t.length)), (17, .one (ex (.int .i64 (t.length : Int)))), (18, .one (ex (.int .i64 (j.1 : Int))))], [(1, [ex (.int .i64 p), slc 5 (rows (ccs f) n) n])]⟩) (fun j => t.length - j.1) ⟨0, Nat.zero_le _, Iff.rfl⟩ ?_ ?_
  ·refine Sub.mk ?_ ?_ <;> repeat (first | exact trivial | refine jV jj ?_ | refine jy jj ?_ | refine jw jj (js0 jj) ?_)
  rintro ⟨j, hj, hji⟩
  dsimp only at hj hji ⊢
  have htl : t.length + 1 ≤ 20 := n1
  by_cases hlj : j < t.length
  ·have hqi := bZy hlj
   have w4 := wS j (by omega)
   have hm2 := gmem 0 hlj
   have hx := n2 _ (List.mem_cons_of_mem _ hm2)
   have hq5 : ((rows (ccs f) n).drop (t.getD j 0 * 5)).take 5 = coc (f (t.getD j 0)) := aZo (aZp f) hx
   rw [aZY (d := 0) hlj, List.forall_mem_cons] at hji
   generalize t.getD j 0 = x at *
   by_cases hs : (f x).s = -1
   ·rw [decide_eq_false (fun h => (hji.1 (he.1 h).1).1 hs)]
    refine js (jr (jS (bLt jj jj) (jn (js (jt jj (jp (js (jb (js (jr (jS (aZc jj jj hlj hqi) (jS (aZf jj jj) (ja jj (jn (js (jr (jF jj jj (jl jj jj jj (jm jj (jS (aZc jj jj hx hq5) (jS (aZh jj jj) (jS (aZf jj jj) (jS (bEt jj jj) (jn (jt jj (js (jr (ja jj (jn (ji ?_))))))))))))))))))))))))))))))
    exact rtT rfl jj
   ·refine js (jr (jS (bLt jj jj) (jn (js (jt jj (jp (js (jb (js (jr (jS (aZc jj jj hlj hqi) (jS (aZf jj jj) (ja jj (jn (js (jr (jF jj jj (jl jj jj jj (jm jj (jS (aZc jj jj hx hq5) (jS (aZh jj jj) (jS (aZf jj jj) (jS (bEf jj jj) (jn (jf jj (jp (jr (jS (bAd jj jj w4) (jm jj (jn ?_))))))))))))))))))))))))))))))
    refine ⟨⟨j + 1, by omega, hji.trans ⟨fun h => h.2, fun h => ⟨hs, h⟩⟩⟩, ?_, by dsimp only; omega⟩
    refine Sub.mk ?_ ?_ <;> repeat (first | exact trivial | refine jV jj ?_ | refine jy jj ?_ | refine jw jj (js0 jj) ?_)
  ·have hall : ∀ k ∈ t, (f k).s ≠ -1 := hji.2 (by rw [List.drop_of_length_le (by omega)]; simp)
   refine js (jr (jS (bLf jj jj) (jn (js (jf jj (je (jr (jS (bAd jj jj w1) (jm jj (jn ?_))))))))))
   refine ⟨⟨k + 1, by omega, he.trans ⟨fun h => h.2, fun h => ⟨hall, h⟩⟩⟩, ?_, by dsimp only; omega⟩
   refine Sub.mk ?_ ?_ <;> repeat (first | exact trivial | refine jV jj ?_ | refine jy jj ?_ | refine jw jj (js0 jj) ?_)
 ·have hok : fiP f (chn f n) := he.2 (by rw [List.drop_of_length_le (by omega)]; unfold fiP; simp)
  rw [decide_eq_true hok]
  refine js (jr (jS (bLf jj jj) (jn (js (jf jj (je (js (jr (ja jj (jn (ji ?_)))))))))))
  exact rtT rfl jj
set_option maxHeartbeats 1000000 in
theorem tiscan (p : Int) (f : Nat → Co) (n : Nat) (hn : n ≤ 20) (r : Bool) (xa xb : Pd) [C1 xa] [C1 xb] (hR : fusP p f n → Fn Tryz.prog En 98 [locP p f n] (tupP [aggP [xa, xb], ex (.bool r)])) :
  Fn Tryz.prog En 53 [locP p f n] (ex (.bool (decide (fusP p f n ∧ fiP f (chn f n) ∧ r = true)))) := by
 have C0 := mZm En p f n hn
 by_cases hfu : fusP p f n
 ·rw [decide_eq_true hfu] at C0
  have hsU := hfu.1.2.2
  have H : Shp f n := ⟨hn, fun k hk => (aZD hsU hk).1, fun k hk => (aZD hsU hk).2.1⟩
  have hy : ∀ i, i < n → 0 ≤ (f i).y ∧ (f i).y ≤ 7 := fun i hi => ⟨(bZ7 hfu.2.1 hi).2.1, (bZ7 hfu.2.1 hi).2.2.1⟩
  have C1 := ttrains En p f n H hy
  have C2 := hR hfu
  have hGi : ∀ g ∈ chn f n, g.length ≤ 20 := fun g hg => Nat.le_trans (bZY g hg) hn
  have hGt : ∀ g ∈ chn f n, ∀ k ∈ g, k < n := fun g hg => bZX g hg
  have hl : (chn f n).length ≤ 20 := Nat.le_trans (bZ2 _ _ _).1 hn
  unfold locP bZl at *
  refine aZb Tryz.func53 rfl Tryz.ntmps53 rfl ?_
  intro w0 h0
  refine js (jr (jB jj jj jj (ja jj (jn (js (js (jr (jL jj jj jj (jS (aZa C0 ⟨jj, trivial⟩) (jS (bNo jj) (jn (jf jj (jp (js (js (jr (jL jj jj jj (jS (aZa C1 ⟨jj, trivial⟩) (jE jj (jm jj (jn (jb ?_))))))))))))))))))))))
  refine WpD.loop (α := {k : Nat // k ≤ (chn f n).length ∧ (fiP f (chn f n) ↔ fiP f ((chn f n).drop k))}) (fun k => ⟨[(1, .ptr 1 0), (13, .one (slc 1 ((chn f n).map gP) (chn f n).length)), (14, .one (ex (.int .i64 ((chn f n).length : Int)))), (15, .one (ex (.int .i64 (k.1 : Int))))], [(1, [ex (.int .i64 p), slc 5 (rows (ccs f) n) n])]⟩) (fun k => (chn f n).length - k.1) ⟨0, Nat.zero_le _, Iff.rfl⟩ ?_ ?_
  ·refine Sub.mk ?_ ?_ <;> repeat (first | exact trivial | refine jV jj ?_ | refine jy jj ?_ | refine jw jj (js0 jj) ?_)
  rintro ⟨k, hk, he⟩
  dsimp only at hk he ⊢
  by_cases hlt : k < (chn f n).length
  ·have hq := dZo hlt
   have w1 := wS k (by omega)
   have hmem := gmem [] hlt
   rw [aZY (d := []) hlt, hZQ] at he
   have n1 := hGi _ hmem
   have n2 := hGt _ hmem
   have n3 := mZT _ hmem
   generalize (chn f n).getD k [] = g at *
   obtain ⟨a, t, rfl⟩ : ∃ a t, g = a :: t := by
    cases g with
    | nil => exact absurd rfl n3
    | cons a t => exact ⟨a, t, rfl⟩
   rw [show (a :: t).drop 1 = t from rfl] at he
   have hdr : (ixP (a :: t)).drop (1 * 1) = ixP t := rfl
   have h1l : 1 ≤ (a :: t).length := by simp
   unfold gP at hq
   refine js (jr (jS (bLt jj jj) (jn (js (jt jj (jp (js (jb (js (jr (jS (aZc jj jj hlt hq) (jS (aZf jj jj) (ja jj (jn (js (jr (jm jj (jS (cZi (j := 1) jj jj h1l hdr) (jE jj (jm jj (jn (jb ?_))))))))))))))))))))))
   rw [show (a :: t).length - 1 = t.length from rfl]
   refine WpD.loop (α := {j : Nat // j ≤ t.length ∧ ((∀ k ∈ t, (f k).s ≠ -1) ↔ (∀ k ∈ t.drop j, (f k).s ≠ -1))}) (fun j => ⟨[(1, .ptr 1 0), (13, .one (slc 1 ((chn f n).map gP) (chn f n).length)), (14, .one (ex (.int .i64 ((chn f n).length : Int)))), (15, .one (ex (.int .i64 (k : Int)))), (20, .one (slc 1 (ixP t) t.length)), (21, .one (ex (.int .i64 (t.length : Int)))), (22, .one (ex (.int .i64 (j.1 : Int))))], [(1, [ex (.int .i64 p), slc 5 (rows (ccs f) n) n])]⟩) (fun j => t.length - j.1) ⟨0, Nat.zero_le _, Iff.rfl⟩ ?_ ?_
   ·refine Sub.mk ?_ ?_ <;> repeat (first | exact trivial | refine jV jj ?_ | refine jy jj ?_ | refine jw jj (js0 jj) ?_)
   rintro ⟨j, hj, hji⟩
   dsimp only at hj hji ⊢
   have htl : t.length + 1 ≤ 20 := n1
   by_cases hlj : j < t.length
   ·have hqi := bZy hlj
    have w4 := wS j (by omega)
    have hm2 := gmem 0 hlj
    have hx := n2 _ (List.mem_cons_of_mem _ hm2)
    have hq5 : ((rows (ccs f) n).drop (t.getD j 0 * 5)).take 5 = coc (f (t.getD j 0)) := aZo (aZp f) hx
    rw [aZY (d := 0) hlj, List.forall_mem_cons] at hji
    generalize t.getD j 0 = x at *
    by_cases hs : (f x).s = -1
    ·rw [decide_eq_false (fun h => (hji.1 (he.1 h.2.1).1).1 hs)]
     refine js (jr (jS (bLt jj jj) (jn (js (jt jj (jp (js (jb (js (jr (jS (aZc jj jj hlj hqi) (jS (aZf jj jj) (ja jj (jn (js (jr (jF jj jj (jl jj jj jj (jm jj (jS (aZc jj jj hx hq5) (jS (aZh jj jj) (jS (aZf jj jj) (jS (bEt jj jj) (jn (jt jj (js (jr (ja jj (jn (ji ?_))))))))))))))))))))))))))))))
     exact rtT rfl jj
    ·refine js (jr (jS (bLt jj jj) (jn (js (jt jj (jp (js (jb (js (jr (jS (aZc jj jj hlj hqi) (jS (aZf jj jj) (ja jj (jn (js (jr (jF jj jj (jl jj jj jj (jm jj (jS (aZc jj jj hx hq5) (jS (aZh jj jj) (jS (aZf jj jj) (jS (bEf jj jj) (jn (jf jj (jp (jr (jS (bAd jj jj w4) (jm jj (jn ?_))))))))))))))))))))))))))))))
     refine ⟨⟨j + 1, by omega, hji.trans ⟨fun h => h.2, fun h => ⟨hs, h⟩⟩⟩, ?_, by dsimp only; omega⟩
     refine Sub.mk ?_ ?_ <;> repeat (first | exact trivial | refine jV jj ?_ | refine jy jj ?_ | refine jw jj (js0 jj) ?_)
   ·have hall : ∀ k ∈ t, (f k).s ≠ -1 := hji.2 (by rw [List.drop_of_length_le (by omega)]; simp)
    refine js (jr (jS (bLf jj jj) (jn (js (jf jj (je (jr (jS (bAd jj jj w1) (jm jj (jn ?_))))))))))
    refine ⟨⟨k + 1, by omega, he.trans ⟨fun h => h.2, fun h => ⟨hall, h⟩⟩⟩, ?_, by dsimp only; omega⟩
    refine Sub.mk ?_ ?_ <;> repeat (first | exact trivial | refine jV jj ?_ | refine jy jj ?_ | refine jw jj (js0 jj) ?_)
  ·have hok : fiP f (chn f n) := he.2 (by rw [List.drop_of_length_le (by omega)]; unfold fiP; simp)
   cases r with
   | true =>
    rw [decide_eq_true ⟨hfu, hok, rfl⟩]
    refine js (jr (jS (bLf jj jj) (jn (js (jf jj (je (js (jr (jL jj jj jj (jS (aZa C2 ⟨jj, trivial⟩) (jm jj (jx' jj jj (jx' jj jj (jA jj jj jj (jP jj jj jj jj (ja jj (jn (js (jr (jm jj (ja jj (jn (ji ?_)))))))))))))))))))))))
    exact rtT rfl jj
   | false =>
    rw [decide_eq_false (fun h => Bool.noConfusion h.2.2)]
    refine js (jr (jS (bLf jj jj) (jn (js (jf jj (je (js (jr (jL jj jj jj (jS (aZa C2 ⟨jj, trivial⟩) (jm jj (jx' jj jj (jx' jj jj (jA jj jj jj (jP jj jj jj jj (ja jj (jn (js (jr (jm jj (ja jj (jn (ji ?_)))))))))))))))))))))))
    exact rtT rfl jj
 ·rw [decide_eq_false hfu] at C0
  rw [decide_eq_false (fun h => hfu h.1)]
  unfold locP at *
  refine aZb Tryz.func53 rfl Tryz.ntmps53 rfl ?_
  intro w0 h0
  refine js (jr (jB jj jj jj (ja jj (jn (js (js (jr (jL jj jj jj (jS (aZa C0 ⟨jj, trivial⟩) (jS (bNo jj) (jn (jt jj (js (jr (ja jj (jn (ji ?_)))))))))))))))))
  exact rtT rfl jj
end
end Go.Proofs.YtdieokoenhncfaaGreatDoor
/- Valid symbols at 2, for any symbol: the program's and the reference's. (With LT.skipU.) -/
namespace Go.Proofs.YtdieokoenhncfaaGreatDoor
open Go.RowKit Limb Num
instance cbody61 : CBody Tryz.prog 61 := ⟨⟨_, Tryz.func61, rfl, by rfl⟩⟩
instance cbody109 : CBody Tryz.prog 109 := ⟨⟨_, Tryz.func109, rfl, by rfl⟩⟩
def lgU (f : Nat → Co) : Nat → Prop
 | 0 => True
 | i + 1 => lgU f i ∧ legP (f i)
instance lgU_dec (f : Nat → Co) : ∀ n, Decidable (lgU f n)
 | 0 => .isTrue trivial
 | n + 1 => by unfold lgU; have := lgU_dec f n; infer_instance
theorem hZB {f : Nat → Co} : ∀ {n i : Nat}, i ≤ n → lgU f n → lgU f i
 | 0, i, h, hs => by rw [show i = 0 by omega]; exact hs
 | n + 1, i, h, hs => by
  by_cases e : i = n + 1
  ·rw [e]; exact hs
  ·exact hZB (by omega) hs.1
theorem mZ8 {f : Nat → Co} : ∀ {n : Nat}, lgU f n → sgU f n
 | 0, _ => trivial
 | _ + 1, ⟨h1, h2⟩ => ⟨mZ8 h1, h2.2.2.2.2.1⟩
def rawP (p : Int) (f : Nat → Co) (n : Nat) : Prop := shP p f n ∧ lgU f n
instance (p : Int) (f : Nat → Co) (n : Nat) : Decidable (rawP p f n) := by unfold rawP; infer_instance
section
variable (En : Ev)
set_option maxHeartbeats 1000000 in
theorem tvalid (p : Int) (f : Nat → Co) (n : Nat) (hn : n ≤ 1000) : Fn Tryz.prog En 52 [locP p f n] (ex (.bool (decide (rawP p f n)))) := by
 have C0 := iZO En p f n hn
 have key : ∀ i, i < n → ¬ lgU f (i + 1) → ¬ rawP p f n := fun i hi h h' => h (hZB (by omega) h'.2)
 unfold locP at *
 by_cases hsh : shP p f n
 ·rw [decide_eq_true hsh] at C0
  have fin : lgU f n → rawP p f n := fun h => ⟨hsh, h⟩
  refine aZb Tryz.func52 rfl Tryz.ntmps52 rfl ?_
  intro w0 h0
  refine js (jr (jB jj jj jj (ja jj (jn (js (js (jr (jL jj jj jj (jS (aZa C0 ⟨jj, trivial⟩) (jS (bNo jj) (jn (jf jj (jp (js (js (jr (jF jj jj (jl jj jj jj (jE jj (jm jj (jn (jb ?_))))))))))))))))))))))
  refine WpD.loop (α := {i : Nat // i ≤ n ∧ lgU f i}) (fun i => ⟨[(9, .one (slc 5 (rows (ccs f) n) n)), (10, .one (ex (.int .i64 (n : Int)))), (11, .one (ex (.int .i64 (i.1 : Int))))], []⟩) (fun i => n - i.1) ⟨0, Nat.zero_le _, trivial⟩ ?_ ?_
  ·refine Sub.mk ?_ ?_ <;> repeat (first | exact trivial | refine jV jj ?_ | refine jy jj ?_ | refine jw jj (js0 jj) ?_)
  rintro ⟨i, hi, hs⟩
  dsimp only at hi hs ⊢
  by_cases hlt : i < n
  ·have hq : ((rows (ccs f) n).drop (i * 5)).take 5 = coc (f i) := aZo (aZp f) hlt
   have w1 := wS i (by omega)
   have L1 := iZP En (f i)
   by_cases hL : legP (f i)
   ·rw [decide_eq_true hL] at L1
    refine js (jr (jS (bLt jj jj) (jn (js (jt jj (jp (js (jb (js (jr (jS (aZc jj jj hlt hq) (jS (aZg jj jj jj) (jA jj jj jj (jP jj jj jj jj (jn (js (jr (jL jj jj jj (jS (aZa L1 ⟨jj, trivial⟩) (jS (bNo jj) (jn (jf jj (jp (jr (jS (bAd jj jj w1) (jm jj (jn ?_)))))))))))))))))))))))))))
    refine ⟨⟨i + 1, by omega, hs, hL⟩, ?_, by dsimp only; omega⟩
    refine Sub.mk ?_ ?_ <;> repeat (first | exact trivial | refine jV jj ?_ | refine jy jj ?_ | refine jw jj (js0 jj) ?_)
   ·rw [decide_eq_false hL] at L1
    rw [decide_eq_false (key i hlt fun h => hL h.2)]
    refine js (jr (jS (bLt jj jj) (jn (js (jt jj (jp (js (jb (js (jr (jS (aZc jj jj hlt hq) (jS (aZg jj jj jj) (jA jj jj jj (jP jj jj jj jj (jn (js (jr (jL jj jj jj (jS (aZa L1 ⟨jj, trivial⟩) (jS (bNo jj) (jn (jt jj (js (jr (ja jj (jn (ji ?_)))))))))))))))))))))))))))
    exact rtT rfl jj
  ·have hin : i = n := by omega
   subst hin
   rw [decide_eq_true (fin hs)]
   refine js (jr (jS (bLf jj jj) (jn (js (jf jj (je (js (jr (ja jj (jn (ji ?_)))))))))))
   exact rtT rfl jj
 ·rw [decide_eq_false hsh] at C0
  rw [decide_eq_false (fun h : rawP p f n => hsh h.1)]
  refine aZb Tryz.func52 rfl Tryz.ntmps52 rfl ?_
  intro w0 h0
  refine js (jr (jB jj jj jj (ja jj (jn (js (js (jr (jL jj jj jj (jS (aZa C0 ⟨jj, trivial⟩) (jS (bNo jj) (jn (jt jj (js (jr (ja jj (jn (ji ?_)))))))))))))))))
  exact rtT rfl jj
set_option maxHeartbeats 1000000 in
theorem jZb (p : Int) (f : Nat → Co) (n : Nat) (hn : n ≤ 1000) : Fn Tryz.prog En 61 [locP p f n] (ex (.bool (decide (rawP p f n)))) := by
 have C0 := gZ5 En f n hn
 have key : ∀ i, i < n → ¬ lgU f (i + 1) → ¬ rawP p f n := fun i hi h h' => h (hZB (by omega) h'.2)
 unfold locP at *
 by_cases hp : p = 2
 ·by_cases ho : ordP f n
  ·rw [decide_eq_true ho] at C0
   have fin : lgU f n → rawP p f n := fun h => ⟨⟨hp, ho.1, ho.2.1⟩, h⟩
   refine aZb Tryz.func61 rfl Tryz.ntmps61 rfl ?_
   intro w0 h0
   refine js (jr (jB jj jj jj (ja jj (jn (js (js (jr (jF jj jj (jl jj jj jj (jS (bNf jj jj) (jm jj (jgf jj jj (jgl jj jj jj (jg (aZa C0 ⟨jj, trivial⟩) (jg (bNo jj) (jQ jj jj (jn (jf jj (jp (js (js (jr (jF jj jj (jl jj jj jj (jE jj (jm jj (jn (jb ?_))))))))))))))))))))))))))))
   refine WpD.loop (α := {i : Nat // i ≤ n ∧ lgU f i}) (fun i => ⟨[(15, .one (slc 5 (rows (ccs f) n) n)), (16, .one (ex (.int .i64 (n : Int)))), (17, .one (ex (.int .i64 (i.1 : Int))))], []⟩) (fun i => n - i.1) ⟨0, Nat.zero_le _, trivial⟩ ?_ ?_
   ·refine Sub.mk ?_ ?_ <;> repeat (first | exact trivial | refine jV jj ?_ | refine jy jj ?_ | refine jw jj (js0 jj) ?_)
   rintro ⟨i, hi, hs⟩
   dsimp only at hi hs ⊢
   by_cases hlt : i < n
   ·have hq : ((rows (ccs f) n).drop (i * 5)).take 5 = coc (f i) := aZo (aZp f) hlt
    have w1 := wS i (by omega)
    have L1 := mZ0 En (f i)
    by_cases hL : legP (f i)
    ·rw [decide_eq_true hL] at L1
     refine js (jr (jS (bLt jj jj) (jn (js (jt jj (jp (js (jb (js (jr (jS (aZc jj jj hlt hq) (jS (aZg jj jj jj) (jA jj jj jj (jP jj jj jj jj (jn (js (jr (jL jj jj jj (jS (aZa L1 ⟨jj, trivial⟩) (jS (bNo jj) (jn (jf jj (jp (jr (jS (bAd jj jj w1) (jm jj (jn ?_)))))))))))))))))))))))))))
     refine ⟨⟨i + 1, by omega, hs, hL⟩, ?_, by dsimp only; omega⟩
     refine Sub.mk ?_ ?_ <;> repeat (first | exact trivial | refine jV jj ?_ | refine jy jj ?_ | refine jw jj (js0 jj) ?_)
    ·rw [decide_eq_false hL] at L1
     rw [decide_eq_false (key i hlt fun h => hL h.2)]
     refine js (jr (jS (bLt jj jj) (jn (js (jt jj (jp (js (jb (js (jr (jS (aZc jj jj hlt hq) (jS (aZg jj jj jj) (jA jj jj jj (jP jj jj jj jj (jn (js (jr (jL jj jj jj (jS (aZa L1 ⟨jj, trivial⟩) (jS (bNo jj) (jn (jt jj (js (jr (ja jj (jn (ji ?_)))))))))))))))))))))))))))
     exact rtT rfl jj
   ·have hin : i = n := by omega
    subst hin
    rw [decide_eq_true (fin hs)]
    refine js (jr (jS (bLf jj jj) (jn (js (jf jj (je (js (jr (ja jj (jn (ji ?_)))))))))))
    exact rtT rfl jj
  ·rw [decide_eq_false ho] at C0
   rw [decide_eq_false (fun h : rawP p f n => ho ⟨h.1.2.1, h.1.2.2, mZ8 h.2⟩)]
   refine aZb Tryz.func61 rfl Tryz.ntmps61 rfl ?_
   intro w0 h0
   refine js (jr (jB jj jj jj (ja jj (jn (js (js (jr (jF jj jj (jl jj jj jj (jS (bNf jj jj) (jm jj (jgf jj jj (jgl jj jj jj (jg (aZa C0 ⟨jj, trivial⟩) (jg (bNo jj) (jQ jj jj (jn (jt jj (js (jr (ja jj (jn (ji ?_)))))))))))))))))))))))
   exact rtT rfl jj
 ·rw [decide_eq_false (fun h : rawP p f n => hp h.1.1)]
  refine aZb Tryz.func61 rfl Tryz.ntmps61 rfl ?_
  intro w0 h0
  refine js (jr (jB jj jj jj (ja jj (jn (js (js (jr (jF jj jj (jl jj jj jj (jS (bNt jj jj) (jm jj (jk (jk (jk (jk (jq jj jj (jn (jt jj (js (jr (ja jj (jn (ji ?_)))))))))))))))))))))))
  exact rtT rfl jj
end
end Go.Proofs.YtdieokoenhncfaaGreatDoor

/- Groups of indices: train.collect. -/
import Derived.Test.YtdieokoenhncfaaGreatDoorMem
import Derived.Test.YtdieokoenhncfaaGreatDoorMc
import Derived.Test.YtdieokoenhncfaaGreatDoorTc
set_option maxRecDepth 3000
namespace Go.Proofs.YtdieokoenhncfaaGreatDoor
open Go.RowKit Limb
instance mZQ : CSlice Tryz.prog 103 3 := ⟨Tryz.underlying103⟩
instance celem_ints1 : CElem Tryz.prog 103 3 1 := ⟨Tryz.underlying103, by kernel_rfl⟩
instance cone_ints1 : COne Tryz.prog 103 := ⟨⟨_, Tryz.underlying103, rfl, by kernel_rfl⟩⟩
instance crowz_int1 : CRowZ Tryz.prog 3 1 [.int .i64 0] 8 := ⟨by kernel_rfl, rfl, rfl⟩
instance mZP : CSlice Tryz.prog 101 103 := ⟨Tryz.underlying101⟩
instance celem_intss : CElem Tryz.prog 101 103 1 := ⟨Tryz.underlying101, by kernel_rfl⟩
instance cone_intss : COne Tryz.prog 101 := ⟨⟨_, Tryz.underlying101, rfl, by kernel_rfl⟩⟩
instance crowz_ints1 : CRowZ Tryz.prog 103 1 [.slice none 0 0] 24 := ⟨by kernel_rfl, rfl, rfl⟩
instance lZE : CRow Tryz.prog 148 2 := ⟨⟨_, Tryz.underlying148, rfl, by kernel_rfl⟩⟩
instance iZC : CField Tryz.prog 148 0 0 := ⟨⟨_, _, Tryz.underlying148, rfl, rfl, by kernel_rfl⟩⟩
instance iZB : CField Tryz.prog 148 1 1 := ⟨⟨_, _, Tryz.underlying148, rfl, rfl, by kernel_rfl⟩⟩
theorem cZR : bZO Tryz.prog 148 [.nilFunc, .nilFunc] := ⟨by kernel_rfl, by simp [Value.oneCell']⟩
instance kZ8 : CZero Tryz.prog 148 [.nilFunc, .nilFunc] := ⟨cZR⟩
instance iZ8 : CStruct Tryz.prog 148 [(0, 1), (1, 1)] [.nilFunc, .nilFunc] := ⟨⟨cZR, _, Tryz.underlying148, fun _ => by kernel_rfl⟩⟩
instance cone_fib : COne Tryz.prog 145 := ⟨⟨_, Tryz.underlying145, rfl, by kernel_rfl⟩⟩
def ixP (l : List Nat) : List Pd := l.map fun (i : Nat) => ex (.int .i64 (i : Int))
def gP (l : List Nat) : Pd := slc 1 (ixP l) l.length
def bZl (G : List (List Nat)) : Pd := slc 1 (G.map gP) G.length
theorem cZv (l : List Nat) : (ixP l).length = l.length * 1 := by unfold ixP; simp
def grps (b j : Nat → Bool) : Nat → List (List Nat) × List Nat
 | 0 => ([], [])
 | i + 1 => if b i = false then grps b j i else if 0 < i ∧ b (i - 1) = true ∧ j i = true then ((grps b j i).1, (grps b j i).2 ++ [i]) else ((if (grps b j i).2 = [] then (grps b j i).1 else (grps b j i).1 ++ [(grps b j i).2]), [i])
def allG (x : List (List Nat) × List Nat) : List (List Nat) := if x.2 = [] then x.1 else x.1 ++ [x.2]
theorem gZM {b j : Nat → Bool} {i : Nat} (h : b i = true) : (grps b j (i + 1)).2 ≠ [] := by
 rw [grps, if_neg (by rw [h]; decide)]
 split
 ·simp
 ·simp
theorem bZ1 {b j : Nat → Bool} : ∀ {i : Nat}, (grps b j i).2 = [] → (grps b j i).1 = []
 | 0, _ => rfl
 | i + 1, h => by
  rw [grps] at h ⊢
  split
  ·rename_i hb
   rw [if_pos hb] at h
   exact bZ1 h
  ·rename_i hb
   rw [if_neg hb] at h
   split at h
   ·simp at h
   ·simp at h
def gcs (I : List (List Nat)) (l : List Nat) (blk cap : Nat) : List Pd := I.map gP ++ (match l with | [] => [] | _ :: _ => [ex (gvl blk l.length cap)])
theorem gZO (I : List (List Nat)) (l : List Nat) (blk cap : Nat) : (gcs I l blk cap).length = (allG (I, l)).length * 1 := by
 unfold gcs allG
 cases l with
 | nil => simp
 | cons a t => simp
theorem bZ2 (b j : Nat → Bool) : ∀ i, (allG (grps b j i)).length ≤ i ∧ (grps b j i).2.length ≤ i
 | 0 => by simp [grps, allG]
 | i + 1 => by
  obtain ⟨h1, h2⟩ := bZ2 b j i
  rw [grps]
  split
  ·omega
  ·split
   ·refine ⟨?_, by simp; omega⟩
    unfold allG at h1 ⊢
    rw [if_neg (by simp)]
    split at h1
    ·simp; omega
    ·simp at h1 ⊢; omega
   ·refine ⟨?_, by simp⟩
    show (allG (allG (grps b j i), [i])).length ≤ _
    generalize allG (grps b j i) = A at h1
    unfold allG
    rw [if_neg (by simp)]
    simp; omega
instance cbody132 : CBody Tryz.prog 132 := ⟨⟨_, Tryz.func132, rfl, by rfl⟩⟩
set_option maxHeartbeats 4000000 in
theorem hZe (En : Ev) (n : Nat) (hn : n ≤ 20) (fb fj : FuncId) [CBody Tryz.prog fb] [CBody Tryz.prog fj] (cb cj : List (List Pd)) (b j : Nat → Bool)
  (hb : ∀ i, i < n → Fn Tryz.prog En fb ([ex (.int .i64 (i : Int))] ++ cb.map cpR) (ex (.bool (b i))))
  (hj : ∀ i, i < n → 0 < i → Fn Tryz.prog En fj ([ex (.int .i64 (i : Int))] ++ cj.map cpR) (ex (.bool (j i)))) :
  Fn Tryz.prog En 132 [ex (.int .i64 (n : Int)), aggP [cl fb cb, cl fj cj]] (bZl (allG (grps b j n))) := by
 refine aZb Tryz.func132 rfl Tryz.ntmps132 rfl ?_
 intro w0 h0
 refine js (jr (jB jj jj jj (ja jj (jn (js (jr (ja jj (jn (js (js (jr (jm jj (jm jj (jn (jb ?_)))))))))))))))
 refine WpD.sub (τ := ⟨[(3, .ptr 3 0), (5, .app 505 1 0), (8, .one (ex (.int .i64 (n : Int)))), (9, .one (ex (.int .i64 ((0 : Nat) : Int))))], [(3, [cl fb cb, cl fj cj]), (505, []), (755, []), (543, []), (793, [])]⟩) ?_ ?_
 ·refine Sub.mk ?_ ?_ <;> repeat (first | exact trivial | refine jV jj ?_ | refine jy jj ?_ | refine jw jj (js0 jj) ?_ | refine jz ?_ | refine jw jj ⟨js0 jj, js0 jj⟩ ?_ | refine jx jj ⟨js0 jj, js0 jj⟩ ?_)
 refine WpD.pin (t := 0) (b := 793) rfl (Option.some_ne_none _) fun xx0 => ?_
 refine WpD.pin (t := 1) (b := 543) rfl (Option.some_ne_none _) fun blk0 => ?_
 refine WpD.loop (α := {q : Nat × Nat × Nat × Nat // q.1 ≤ n ∧ (0 < (grps b j q.1).2.length → (grps b j q.1).2.length ≤ q.2.2.1 ∧ q.2.2.1 ≤ maxLen ∧ q.2.2.2 = q.2.2.1 * 1)}) (fun q => ⟨[(0, .pin 793 q.1.2.2.2), (1, .pin 543 q.1.2.1), (3, .ptr 3 0), (5, .app 505 1 (allG (grps b j q.1.1)).length), (8, .one (ex (.int .i64 (n : Int)))), (9, .one (ex (.int .i64 (q.1.1 : Int))))], [(3, [cl fb cb, cl fj cj]), (505, gcs (grps b j q.1.1).1 (grps b j q.1.1).2 q.1.2.1 q.1.2.2.1), (755, []), (543, ixP (grps b j q.1.1).2), (793, [])]⟩) (fun q => n - q.1.1) ⟨(0, blk0, 0, xx0), Nat.zero_le _, fun h => absurd h (Nat.lt_irrefl 0)⟩ ?_ ?_
 ·dsimp only
  refine Sub.mk ?_ ?_ <;> repeat (first | exact trivial | refine jV jj ?_ | refine jy jj ?_ | refine jw jj (js0 jj) ?_ | refine jz ?_ | refine jw jj ⟨js0 jj, js0 jj⟩ ?_ | refine jx jj ⟨js0 jj, js0 jj⟩ ?_)
 rintro ⟨⟨i, blk, cap, xx⟩, hi, hcap⟩
 dsimp only at hi hcap ⊢
 by_cases hlt : i < n
 ·have w1 := wS i (by omega)
  have B1 := hb i hlt
  cases hbi : b i with
  | false =>
   have e1 : grps b j (i + 1) = grps b j i := by rw [grps, if_pos hbi]
   rw [hbi] at B1
   refine js (jr (jS (bLt jj jj) (jn (js (jt jj (jp (js (jb (js (jr (jm jj (ja jj (jn (js (js (jr (jF jj jj (jl jj jj jj (jm jj (jS (dZe jj B1 ⟨jj, trivial⟩) (jS (bNo jj) (jn (jt jj (je (jr (jS (bAd jj jj w1) (jm jj (jn ?_))))))))))))))))))))))))))))
   refine ⟨⟨(i + 1, blk, cap, xx), by dsimp only; omega, by dsimp only; rw [e1]; exact hcap⟩, ?_, by dsimp only; omega⟩
   dsimp only
   rw [e1]
   refine Sub.mk ?_ ?_ <;> repeat (first | exact trivial | refine jV jj ?_ | refine jy jj ?_ | refine jw jj (js0 jj) ?_ | refine jz ?_ | refine jw jj ⟨js0 jj, js0 jj⟩ ?_ | refine jx jj ⟨js0 jj, js0 jj⟩ ?_)
  | true =>
   rw [hbi] at B1
   obtain ⟨g1, g2⟩ := bZ2 b j i
   refine js (jr (jS (bLt jj jj) (jn (js (jt jj (jp (js (jb (js (jr (jm jj (ja jj (jn (js (js (jr (jF jj jj (jl jj jj jj (jm jj (jS (dZe jj B1 ⟨jj, trivial⟩) (jS (bNo jj) (jn (jf jj (jp ?_))))))))))))))))))))))))
   refine WpD.cut (α := {v : Bool // v = (decide (0 < i) && b (i - 1) && j i)}) (fun v => ⟨[(0, .pin 793 xx), (1, .pin 543 blk), (3, .ptr 3 0), (5, .app 505 1 (allG (grps b j i)).length), (6, .one (ex (.int .i64 (i : Int)))), (8, .one (ex (.int .i64 (n : Int)))), (9, .one (ex (.int .i64 (i : Int)))), (31, .one (ex (.bool v.1)))], [(3, [cl fb cb, cl fj cj]), (505, gcs (grps b j i).1 (grps b j i).2 blk cap), (755, []), (543, ixP (grps b j i).2), (793, [])]⟩) ?_ ?_
   ·by_cases hi0 : i = 0
    ·repeat (first | apply js | apply jb)
     refine jr (jm jj (jS (bGf jj jj (by omega)) (jm jj ?_)))
     first | refine jgf jj jj ?_ | refine jk ?_
     first | refine jgl jj jj jj ?_ | refine jk ?_
     first | refine jgm jj ?_ | refine jk ?_
     first | refine jg (aZu jj jj (fun w => aZQ w _ _ _ _ _ _)) ?_ | refine jk ?_
     first | refine jg (fZk jj missing_contract ⟨jj, trivial⟩) ?_ | refine jk ?_
     first | refine jq jj jj ?_ | refine jQ jj jj ?_
     refine jm jj ?_
     first | refine jgf jj jj ?_ | refine jk ?_
     first | refine jgl jj jj jj ?_ | refine jk ?_
     first | refine jgm jj ?_ | refine jk ?_
     first | refine jg (fZk jj missing_contract ⟨jj, trivial⟩) ?_ | refine jk ?_
     first | refine jq jj jj ?_ | refine jQ jj jj ?_
     refine jn ?_
     refine ⟨⟨false, by rw [decide_eq_false (show ¬ 0 < i by omega)]; rfl⟩, ?_⟩
     refine Sub.mk ?_ ?_ <;> repeat (first | exact trivial | refine jV jj ?_ | refine jy jj ?_ | refine jw jj (js0 jj) ?_ | refine jz ?_ | refine jw jj ⟨js0 jj, js0 jj⟩ ?_ | refine jx jj ⟨js0 jj, js0 jj⟩ ?_)
    ·have w2 : IntKind.i64.wrap ((i : Int) - 1) = ((i - 1 : Nat) : Int) := by rw [w64 (by omega) (by omega)]; omega
     have B2 := hb (i - 1) (by omega)
     cases hb2 : b (i - 1) with
     | false =>
      rw [hb2] at B2
      repeat (first | apply js | apply jb)
      refine jr (jm jj (jS (bGt jj jj (by omega)) (jm jj ?_)))
      first | refine jgf jj jj ?_ | refine jk ?_
      first | refine jgl jj jj jj ?_ | refine jk ?_
      first | refine jgm jj ?_ | refine jk ?_
      first | refine jg (bSu jj jj w2) ?_ | refine jk ?_
      first | refine jg (dZe jj B2 ⟨jj, trivial⟩) ?_ | refine jk ?_
      first | refine jq jj jj ?_ | refine jQ jj jj ?_
      refine jm jj ?_
      first | refine jgf jj jj ?_ | refine jk ?_
      first | refine jgl jj jj jj ?_ | refine jk ?_
      first | refine jgm jj ?_ | refine jk ?_
      first | refine jg (fZk jj missing_contract ⟨jj, trivial⟩) ?_ | refine jk ?_
      first | refine jq jj jj ?_ | refine jQ jj jj ?_
      refine jn ?_
      refine ⟨⟨false, by simp⟩, ?_⟩
      refine Sub.mk ?_ ?_ <;> repeat (first | exact trivial | refine jV jj ?_ | refine jy jj ?_ | refine jw jj (js0 jj) ?_ | refine jz ?_ | refine jw jj ⟨js0 jj, js0 jj⟩ ?_ | refine jx jj ⟨js0 jj, js0 jj⟩ ?_)
     | true =>
      rw [hb2] at B2
      have J2 := hj i hlt (by omega)
      repeat (first | apply js | apply jb)
      refine jr (jm jj (jS (bGt jj jj (by omega)) (jm jj ?_)))
      first | refine jgf jj jj ?_ | refine jk ?_
      first | refine jgl jj jj jj ?_ | refine jk ?_
      first | refine jgm jj ?_ | refine jk ?_
      first | refine jg (bSu jj jj w2) ?_ | refine jk ?_
      first | refine jg (dZe jj B2 ⟨jj, trivial⟩) ?_ | refine jk ?_
      first | refine jq jj jj ?_ | refine jQ jj jj ?_
      refine jm jj ?_
      first | refine jgf jj jj ?_ | refine jk ?_
      first | refine jgl jj jj jj ?_ | refine jk ?_
      first | refine jgm jj ?_ | refine jk ?_
      first | refine jg (dZe jj J2 ⟨jj, trivial⟩) ?_ | refine jk ?_
      first | refine jq jj jj ?_ | refine jQ jj jj ?_
      refine jn ?_
      refine ⟨⟨j i, by rw [decide_eq_true (show 0 < i by omega)]; simp⟩, ?_⟩
      refine Sub.mk ?_ ?_ <;> repeat (first | exact trivial | refine jV jj ?_ | refine jy jj ?_ | refine jw jj (js0 jj) ?_ | refine jz ?_ | refine jw jj ⟨js0 jj, js0 jj⟩ ?_ | refine jx jj ⟨js0 jj, js0 jj⟩ ?_)
   rintro ⟨v, hv⟩
   dsimp only
   cases v with
   | true =>
    have hv : 0 < i ∧ b (i - 1) = true ∧ j i = true := by simp at hv; exact ⟨hv.1.1, hv.1.2, hv.2⟩
    have hne : (grps b j i).2 ≠ [] := by have := gZM (b := b) (j := j) hv.2.1; rwa [show i - 1 + 1 = i by omega] at this
    have e1 : grps b j (i + 1) = ((grps b j i).1, (grps b j i).2 ++ [i]) := by rw [grps, if_neg (by rw [hbi]; decide), if_pos hv]
    generalize grps b j i = G at *
    obtain ⟨I, l⟩ := G
    cases l with
    | nil => exact absurd rfl hne
    | cons a t =>
    have hG : (allG (I, a :: t)).length = I.length + 1 := by unfold allG; simp
    rw [hG] at g1 ⊢
    dsimp only at g2 hcap e1 ⊢
    have g2 : t.length + 1 ≤ i := g2
    have w3 : IntKind.i64.wrap (((I.length + 1 : Nat) : Int) - 1) = ((I.length : Nat) : Int) := by rw [w64 (by omega) (by omega)]; omega
    have hget : (gcs I (a :: t) blk cap)[I.length]? = some (ex (gvl blk (a :: t).length cap)) := by
     unfold gcs
     rw [List.getElem?_append_right (by simp)]
     simp
    have hlen : (ixP (a :: t)).length = (a :: t).length * 1 := cZv _
    have hr : ixP (a :: t) ++ [ex (.int .i64 (i : Int))] = ixP ((a :: t) ++ [i]) := by unfold ixP; simp
    repeat (first | apply js | apply jb)
    refine WpD.condT rfl ?_
    repeat (first | apply js | apply jb)
    refine jr (jm jj (jS (cZ1 jj CSlice.ok) (jS (bSu jj jj w3) (ja jj (jn ?_)))))
    repeat (first | apply js | apply jb)
    refine WpD.seqR ?_
    refine WpS.S rfl rfl (aZK rfl) rfl ?_
    refine WpS.S rfl rfl (aZK rfl) rfl ?_
    refine WpS.S rfl rfl (aZK rfl) rfl ?_
    refine WpS.S rfl rfl (aZK rfl) rfl ?_
    refine WpS.S rfl rfl (bZ5 rfl rfl (by omega) (Nat.mul_one I.length)) rfl ?_
    refine WpS.S rfl rfl (aZt rfl rfl hget) rfl ?_
    refine WpS.S rfl rfl (aZK rfl) rfl ?_
    refine WpS.S rfl rfl (aZE (ps := [(_, _)]) ⟨rfl, Part.c rfl, trivial⟩ rfl rfl rfl) rfl ?_
    refine WpS.sub (Sub.toApp (t := 40) (p := 1) (q := 0) (b := 543) (k := 1) (blk := blk) (len := (a :: t).length) (cap := cap) (x := xx) rfl rfl rfl hcap) ?_
    refine WpS.S rfl rfl (aZN 544 rfl rfl hlen rfl (by omega) (by simp; omega) rfl rfl rfl rfl rfl hr) rfl ?_
    refine WpS.sub (τ := ⟨[(3, .ptr 3 0), (5, .app 505 1 (I.length + 1)), (8, .one (ex (.int .i64 (n : Int)))), (9, .one (ex (.int .i64 (i : Int)))), (35, .app 505 1 (I.length + 1)), (36, .one (ex (.int .i64 ((I.length : Nat) : Int)))), (43, .app 543 1 ((a :: t).length + 1))], [(3, [cl fb cb, cl fj cj]), (505, gcs I (a :: t) blk cap), (755, []), (543, ixP ((a :: t) ++ [i])), (793, [])]⟩) (Sub.ren 543 544 rfl ?_ ?_ rfl) ?_
    ·repeat (first | exact trivial | refine ⟨.inl ⟨⟨_, rfl, PLe.refl _⟩, trivial, trivial⟩, ?_⟩ | refine ⟨.inr ⟨_, _, rfl, .inl rfl, ⟨Option.some_ne_none _, Option.some_ne_none _⟩⟩, ?_⟩ | refine ⟨.inl ⟨⟨_, rfl, rfl⟩, Option.some_ne_none _, ⟨(by decide), (by decide)⟩⟩, ?_⟩ | refine ⟨.inl ⟨⟨_, rfl, rfl⟩, ⟨Option.some_ne_none _, Option.some_ne_none _⟩, ⟨(by decide), (by decide), (by decide), (by decide)⟩⟩, ?_⟩)
    ·repeat (first | exact trivial | refine ⟨.inr ⟨(by decide), .inr rfl⟩, ?_⟩ | refine ⟨.inl ⟨rfl, _, rfl, PsLe.refl _⟩, ?_⟩ | refine ⟨.inr ⟨(by decide), .inl ⟨(by decide), _, rfl, PsLe.refl _⟩⟩, ?_⟩)
    refine WpS.fromApp (t := 43) (p := 1) (q := 0) rfl rfl rfl (by simp) fun blk' cap' xx' hc' => ?_
    have hset : (gcs I (a :: t) blk cap).set I.length (ex (gvl blk' ((a :: t).length + 1) cap')) = gcs I ((a :: t) ++ [i]) blk' cap' := by
     unfold gcs
     rw [List.set_append_right _ _ (by simp)]
     simp
    refine WpS.S rfl rfl (bZ5 rfl rfl (by omega) (Nat.mul_one I.length)) rfl ?_
    refine WpS.N rfl (aZz rfl rfl rfl (by rw [gZO, hG]; omega) hset) rfl ?_
    refine WpS.nil ?_
    repeat (first | apply js | apply jb)
    refine jr (jS (bAd jj jj w1) (jm jj (jn ?_)))
    refine ⟨⟨(i + 1, blk', cap', xx'), by dsimp only; omega, by dsimp only; rw [e1]; exact fun _ => by simpa using hc'⟩, ?_, by dsimp only; omega⟩
    dsimp only
    rw [e1, show (allG (I, a :: t ++ [i])).length = I.length + 1 by unfold allG; simp]
    refine Sub.mk ?_ ?_ <;> repeat (first | exact trivial | refine jV jj ?_ | refine jy jj ?_ | refine jw jj (js0 jj) ?_ | refine jz ?_ | refine jw jj ⟨js0 jj, js0 jj⟩ ?_ | refine jx jj ⟨js0 jj, js0 jj⟩ ?_)
   | false =>
    have hv : ¬ (0 < i ∧ b (i - 1) = true ∧ j i = true) := by rintro ⟨h1, h2, h3⟩; rw [h2, h3, decide_eq_true h1] at hv; cases hv
    have e1 : grps b j (i + 1) = (allG (grps b j i), [i]) := by rw [grps, if_neg (by rw [hbi]; decide), if_neg hv]; rfl
    repeat (first | apply js | apply jb)
    refine WpD.condF rfl ?_
    refine WpD.sub (τ := ⟨[(3, .ptr 3 0), (5, .app 505 1 (allG (grps b j i)).length), (6, .one (ex (.int .i64 (i : Int)))), (8, .one (ex (.int .i64 (n : Int)))), (9, .one (ex (.int .i64 (i : Int))))], [(505, (allG (grps b j i)).map gP), (3, [cl fb cb, cl fj cj]), (755, [])]⟩) ?_ ?_
    ·have hfst := bZ1 (b := b) (j := j) (i := i)
     generalize grps b j i = G at *
     obtain ⟨I, l⟩ := G
     cases l with
     | nil =>
      have hI : I = [] := hfst rfl
      subst hI
      refine Sub.mk ?_ ?_ <;> repeat (first | exact trivial | refine jV jj ?_ | refine jy jj ?_ | refine jw jj (js0 jj) ?_ | refine jz ?_ | refine jw jj ⟨js0 jj, js0 jj⟩ ?_ | refine jx jj ⟨js0 jj, js0 jj⟩ ?_)
     | cons a t =>
      have hA : allG (I, a :: t) = I ++ [a :: t] := by unfold allG; simp
      obtain ⟨q1, q2, _⟩ := hcap (by simp)
      have hm : (I ++ [a :: t]).map gP = I.map gP ++ [slc 1 (ixP (a :: t)) (a :: t).length] := by simp [gP]
      rw [hA, hm]
      refine Sub.pubLast (b := 543) (d := 505) (p := 1) (k := 1) (len := (a :: t).length) (cap := cap) (blk := blk) (L := I.map gP) (sl := [(3, .ptr 3 0), (5, .app 505 1 (I ++ [a :: t]).length), (6, .one (ex (.int .i64 (i : Int)))), (8, .one (ex (.int .i64 (n : Int)))), (9, .one (ex (.int .i64 (i : Int))))]) (bx0 := [(3, [cl fb cb, cl fj cj]), (505, I.map gP ++ [ex (gvl blk (a :: t).length cap)]), (755, [])]) rfl rfl (cZv _) rfl rfl (by simp) q1 q2 ?_ rfl ?_ |>.trans ?_
      ·exact ⟨.inl ⟨_, rfl, PsLe.refl _⟩, .inl ⟨_, rfl, PsLe.refl _⟩, .inl ⟨_, rfl, PsLe.refl _⟩, trivial⟩
      ·repeat (first | exact trivial | refine jv rfl ?_ | refine jw rfl (js0 rfl) ?_ | refine jw rfl ⟨js0 rfl, js0 rfl⟩ ?_)
      ·refine Sub.mk ?_ ?_ <;> repeat (first | exact trivial | refine jV jj ?_ | refine jy jj ?_ | refine jw jj (js0 jj) ?_ | refine jz ?_ | refine jw jj ⟨js0 jj, js0 jj⟩ ?_ | refine jx jj ⟨js0 jj, js0 jj⟩ ?_)
    generalize hA : allG (grps b j i) = A at *
    have hlen : (A.map gP).length = A.length * 1 := by simp
    repeat (first | apply js | apply jb)
    refine WpD.seqR ?_
    refine WpS.S rfl rfl (aZK rfl) rfl ?_
    refine WpS.S rfl rfl (aZK rfl) rfl ?_
    refine WpS.S rfl rfl (dZW 543 (ps := [(_, _)]) ⟨rfl, Part.c rfl, trivial⟩ rfl rfl rfl rfl rfl rfl) rfl ?_
    refine WpS.fromApp (t := 47) (p := 1) (q := 0) rfl rfl rfl (by omega) fun blk' cap' xx' hc' => ?_
    refine WpS.S rfl rfl (aZE (ps := [(_, _)]) ⟨rfl, Part.c rfl, trivial⟩ rfl rfl rfl) rfl ?_
    refine WpS.S rfl rfl (aZN 549 rfl rfl hlen rfl (by omega) (by omega) rfl rfl rfl rfl rfl rfl) rfl ?_
    refine WpS.S rfl rfl (dZc rfl) rfl ?_
    refine WpS.sub (τ := ⟨[(0, .pin 793 xx'), (1, .pin 543 blk'), (3, .ptr 3 0), (5, .app 505 1 (A.length + 1)), (8, .one (ex (.int .i64 (n : Int)))), (9, .one (ex (.int .i64 (i : Int))))], [(3, [cl fb cb, cl fj cj]), (505, A.map gP ++ [ex (gvl blk' 1 cap')]), (755, []), (543, [ex (.int .i64 (i : Int))]), (793, [])]⟩) (Sub.ren 505 549 rfl ?_ ?_ rfl) ?_
    ·repeat (first | exact trivial | refine ⟨.inl ⟨⟨_, rfl, PLe.refl _⟩, trivial, trivial⟩, ?_⟩ | refine ⟨.inr ⟨_, _, rfl, .inl rfl, ⟨Option.some_ne_none _, Option.some_ne_none _⟩⟩, ?_⟩ | refine ⟨.inl ⟨⟨_, rfl, rfl⟩, Option.some_ne_none _, ⟨(by decide), (by decide)⟩⟩, ?_⟩ | refine ⟨.inl ⟨⟨_, rfl, rfl⟩, ⟨Option.some_ne_none _, Option.some_ne_none _⟩, ⟨(by decide), (by decide), (by decide), (by decide)⟩⟩, ?_⟩)
    ·repeat (first | exact trivial | refine ⟨.inr ⟨(by decide), .inr rfl⟩, ?_⟩ | refine ⟨.inl ⟨rfl, _, rfl, PsLe.refl _⟩, ?_⟩ | refine ⟨.inr ⟨(by decide), .inl ⟨(by decide), _, rfl, PsLe.refl _⟩⟩, ?_⟩)
    refine WpS.nil ?_
    repeat (first | apply js | apply jb)
    refine jr (jS (bAd jj jj w1) (jm jj (jn ?_)))
    refine ⟨⟨(i + 1, blk', cap', xx'), by dsimp only; omega, by dsimp only; rw [e1]; exact fun _ => by simpa using hc'⟩, ?_, by dsimp only; omega⟩
    dsimp only
    rw [e1, show (allG (A, [i])).length = A.length + 1 by unfold allG; simp]
    refine Sub.mk ?_ ?_ <;> repeat (first | exact trivial | refine jV jj ?_ | refine jy jj ?_ | refine jw jj (js0 jj) ?_ | refine jz ?_ | refine jw jj ⟨js0 jj, js0 jj⟩ ?_ | refine jx jj ⟨js0 jj, js0 jj⟩ ?_)
 ·have : i = n := by omega
  subst this
  have hfst := bZ1 (b := b) (j := j) (i := i)
  unfold bZl
  refine js (jr (jS (bLf jj jj) (jn (js (jf jj (je ?_))))))
  refine WpD.sub (τ := ⟨[(5, .one (slc 1 ((allG (grps b j i)).map gP) (allG (grps b j i)).length))], []⟩) ?_ ?_
  ·generalize grps b j i = G at *
   obtain ⟨I, l⟩ := G
   cases l with
   | nil =>
    have hI : I = [] := hfst rfl
    subst hI
    exact Sub.pub 505 rfl rfl ⟨.inr (.inr (.inl ⟨_, _, _, rfl, rfl, rfl, PLe.refl _⟩)), trivial⟩ trivial rfl
   | cons a t =>
    have hA : allG (I, a :: t) = I ++ [a :: t] := by unfold allG; simp
    obtain ⟨q1, q2, _⟩ := hcap (by simp)
    have hm : (I ++ [a :: t]).map gP = I.map gP ++ [slc 1 (ixP (a :: t)) (a :: t).length] := by simp [gP]
    have hl2 : (I.map gP ++ [slc 1 (ixP (a :: t)) (a :: t).length]).length = (I ++ [a :: t]).length * 1 := by simp
    rw [hA, hm]
    refine (Sub.pubLast (b := 543) (d := 505) (p := 1) (k := 1) (len := (a :: t).length) (cap := cap) (blk := blk) (L := I.map gP) (sl := [(5, .app 505 1 (I ++ [a :: t]).length)]) (bx0 := [(505, I.map gP ++ [ex (gvl blk (a :: t).length cap)]), (755, [])]) rfl rfl (cZv _) rfl rfl (by simp) q1 q2 ⟨.inl ⟨_, rfl, PsLe.refl _⟩, .inl ⟨_, rfl, PsLe.refl _⟩, trivial⟩ rfl ?_).trans ?_
    ·repeat (first | exact trivial | refine jv rfl ?_ | refine jw rfl (js0 rfl) ?_ | refine jw rfl ⟨js0 rfl, js0 rfl⟩ ?_)
    ·exact Sub.pub 505 rfl rfl ⟨.inr (.inr (.inl ⟨_, _, _, rfl, rfl, hl2, PLe.refl _⟩)), trivial⟩ trivial rfl
  repeat (first | apply js | apply jb)
  refine jr (jm jj (ja jj (jn (ji ?_))))
  exact rtT rfl jj
end Go.Proofs.YtdieokoenhncfaaGreatDoor

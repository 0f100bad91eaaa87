/- Least oddities: the reference's copied, refine, Refine, IsCanonical. (With LT.skipU.) -/
import Derived.Test.YtdieokoenhncfaaGreatDoorMem
import Derived.Test.YtdieokoenhncfaaGreatDoorTp
import Derived.Test.YtdieokoenhncfaaGreatDoorTm
import Derived.Test.YtdieokoenhncfaaGreatDoorTv
set_option maxRecDepth 3000
namespace Go.Proofs.YtdieokoenhncfaaGreatDoor
open Go.RowKit Limb Num
instance cbody78 : CBody Tryz.prog 78 := ⟨⟨_, Tryz.func78, rfl, by rfl⟩⟩
instance cbody145 : CBody Tryz.prog 145 := ⟨⟨_, Tryz.func145, rfl, by rfl⟩⟩
instance cbody112 : CBody Tryz.prog 112 := ⟨⟨_, Tryz.func112, rfl, by rfl⟩⟩
instance cbody62 : CBody Tryz.prog 62 := ⟨⟨_, Tryz.func62, rfl, by rfl⟩⟩
section
variable {P : Program} {En : Ev} {n : Nat} {w0 : World} {h0 : GH} {c : Cx}
theorem WpD.regL {id : Nat} {full : List Oper} (m : Nat) {o : Oper} {es : List Eff} {σ τ : St} {K : Exit → St → Prop} [CMix P] (hf : full.drop m = [o]) (hc : Chain P En n full.toArray (full.take m) σ es τ) (hok : eZh n (full.take m) o es = true) (hk : WpS P En n w0 h0 c full.toArray [m] (K .normal) τ) :
  WpD P En n w0 h0 c (.region id full.toArray true) K σ := by
 have e : full = full.take m ++ [o] := by rw [← hf, List.take_append_drop]
 have hl : (full.take m).length = m := by
  have h1 := congrArg List.length hf
  have h2 := congrArg List.length e
  simp at h1 h2 ⊢
  omega
 generalize hl' : full.take m = l at *
 subst e
 subst hl
 exact WpD.regionL hc hok hk
end
theorem aZ6 {bx : Bx} {d o b blk : Nat} (h1 : look bx d ≠ none) (h2 : look bx b ≠ none) : (SD.gen (plB d o b blk)).live bx := by
 intro x hx
 have hx : x ∈ [d, b] := hx
 simp only [List.mem_cons, List.not_mem_nil, or_false] at hx
 rcases hx with rfl | rfl
 ·exact h1
 ·exact h2
def ccq (f : Nat → Co) (q : Nat → Pd) : Nat → List Pd := fun i => [ex (.int .i64 (f i).e), ex (.int .i64 (f i).d), ex (.int .i64 (f i).s), ex (.bool (f i).o), q i]
theorem fZ9 (f : Nat → Co) (q : Nat → Pd) (i : Nat) : (ccq f q i).length = 5 := rfl
theorem PsLe.app {a b c d : List Pd} (h1 : PsLe a b) (hl : a.length = b.length) (h2 : PsLe c d) : PsLe (a ++ c) (b ++ d) := by
 induction a generalizing b with
 | nil =>
  cases b with
  | nil => exact h2
  | cons => cases hl
 | cons x xs ih =>
  cases b with
  | nil => cases hl
  | cons y ys => exact ⟨h1.1, ih h1.2 (by simpa using hl)⟩
theorem jZk {F G : Nat → List Pd} (hl : ∀ i, (F i).length = (G i).length) (h : ∀ i, PsLe (F i) (G i)) : ∀ n, PsLe (rows F n) (rows G n)
 | 0 => trivial
 | n + 1 => by
  rw [aZ9, aZ9]
  refine (jZk hl h n).app ?_ (h n)
  clear h
  induction n with
  | zero => rfl
  | succ n ih => rw [aZ9, aZ9, List.length_append, List.length_append, ih, hl]
theorem kZ1 {f : Nat → Co} {q : Nat → Pd} (h : ∀ i, PLe (q i) anyC) (n : Nat) : PsLe (rows (ccq f q) n) (rows (ccq f fun _ => anyC) n) :=
 jZk (F := ccq f q) (G := ccq f fun _ => anyC) (fun _ => rfl) (fun i => ⟨PLe.refl _, PLe.refl _, PLe.refl _, PLe.refl _, h i, trivial⟩) n
theorem ccq_set {f : Nat → Co} {q : Nat → Pd} {n x : Nat} (h : x < n) (v : Int) : (rows (ccq f q) n).set (x * 5 + 4) (ex (.int .i64 v)) = rows (ccq f (fun i => if i = x then ex (.int .i64 v) else q i)) n := by
 obtain ⟨Lo, Hi, h1, h2, h3⟩ := cZf (fZ9 f q) h
 rw [h3 (ccq f (fun i => if i = x then ex (.int .i64 v) else q i)) (fun t ht => by unfold ccq; dsimp only; rw [if_neg ht]), h2]
 unfold ccq
 dsimp only
 rw [if_pos rfl, List.set_append_right _ _ (by omega), h1, show x * 5 + 4 - x * 5 = 4 by omega, List.set_append_left _ _ (by simp)]
 rfl
theorem mZG (k : IntKind) (v : Int) : PLe (ex (.int k v)) anyC := fun _ u h => by rw [show u = .int k v from h]; rfl
section
variable (En : Ev)
set_option maxHeartbeats 4000000 in
theorem gZ7 (p : Int) (f : Nat → Co) (n : Nat) (hn0 : 0 < n) (hn : n ≤ 20) : FnG Tryz.prog En 78 ([locP p f n].map .one) [] (.gen (stB (ex (.int .i64 p)) 7 n)) [(7, rows (ccs f) n)] := by
 have hm : n ≤ 1000000000 := by omega
 unfold locP
 refine aZL Tryz.func78 rfl Tryz.ntmps78 rfl ?_
 intro w0 h0 c
 repeat (first | apply js | apply jb)
 refine jr (jB jj jj jj (jA jj jj jj (jn ?_)))
 repeat (first | apply js | apply jb)
 refine WpD.regL 6 rfl (Chain.cons (LT.plain rfl (bZv rfl rfl)) (Chain.cons (LT.plain rfl (aZt rfl rfl rfl)) (Chain.cons (LT.plain rfl (bZv rfl rfl)) (Chain.cons (LT.plain rfl (aZt rfl rfl rfl)) (Chain.cons (LT.plain rfl (dZv rfl (fun _ _ h => ⟨none, h⟩) rfl hn0 hm rfl rfl rfl)) (Chain.cons (LT.plain rfl (hZp rfl rfl rfl)) (Chain.nil _))))))) (by kernel_rfl) ?_
 refine WpS.openSt (t := 8) (q := 3) rfl rfl hn0 fun blk cap hc => ?_
 refine WpS.N rfl (cZd rfl rfl rfl rfl rfl rfl) rfl ?_
 refine WpS.nil ?_
 repeat (first | apply js | apply jb)
 refine WpD.ret ?_
 exact retGst rfl rfl rfl (q := 3) rfl hn0 hc ⟨.inl ⟨_, rfl, PsLe.refl _⟩, trivial⟩ (Option.some_ne_none _)
set_option maxHeartbeats 4000000 in
theorem jZi (f : Nat → Co) (n : Nat) (l : List Nat) (hl : l.length ≤ 20) (hli : ∀ i ∈ l, i < n) : ∀ (m k : Nat), k + m = l.length → ∀ (T : Nat), T < 8 → ∀ (r : Bool), (r = true ↔ fea f (l.drop k) T) → ∀ (q : Nat → Pd), (∀ i, PLe (q i) anyC) →
  FnG Tryz.prog En 145 [.own 1000 0 n n, .one (gP l), .one (ex (.int .i64 (k : Int))), .one (ex (.int .i64 (T : Int)))] [(1000, rows (ccq f q) n)] (.one (ex (.bool r))) [(1000, rows (ccq f fun _ => anyC) n)] := by
 intro m
 induction m with
 | zero =>
  intro k hk T hT r hr q hq
  have hkl : (k : Int) = (l.length : Int) := by omega
  have h0 : fea f (l.drop k) T ↔ T = 0 := by
   rw [List.drop_of_length_le (by omega)]; unfold fea; omega
  have hrT : r = ((T : Int) == 0) := by
   rw [Bool.eq_iff_iff, hr, h0]
   simp
  unfold gP
  subst hrT
  refine aZL Tryz.func145 rfl Tryz.ntmps145 rfl ?_
  intro w0 h0 c
  refine js (jr (ja jj (jn (js (js (jr (jm jj (jm jj (jE jj (jS (bEt jj jj) (jn (jt jj (js (jr (jm jj (jS (aZu jj jj (fun w => aZ4 w _ _ _ _ _ _)) (ja jj (jn (ji ?_)))))))))))))))))))
  exact fZm rfl rfl (PLe.refl _) trivial ⟨.inl ⟨_, rfl, kZ1 hq n⟩, trivial⟩
 | succ m ih =>
  intro k hk T hT r hr q hq
  have hlk : k < l.length := by omega
  have hkl : ¬ (k : Int) = (l.length : Int) := by omega
  have hqi := bZy hlk
  have hmi := gmem 0 hlk
  have hx := hli _ hmi
  have hdc : l.drop k = l.getD k 0 :: l.drop (k + 1) := aZY hlk
  rw [hdc, fZ4] at hr
  generalize l.getD k 0 = x at *
  unfold gP
  refine aZL Tryz.func145 rfl Tryz.ntmps145 rfl ?_
  intro w0 h0 c
  refine js (jr (ja jj (jn (js (js (jr (jm jj (jm jj (jE jj (jS (bEf jj jj) (jn (jf jj (jp (js (js (jr (ja jj (jn (jb ?_)))))))))))))))))))
  refine WpD.loop (α := {s : Nat × (Nat → Pd) // s.1 ≤ 8 ∧ (∀ i, PLe (s.2 i) anyC) ∧ ∀ t, t < s.1 → ¬ (legP (wy (f x) (t : Int)) ∧ fea f (l.drop (k + 1)) (T + (8 - t)))}) (fun s => ⟨[(0, .own 1000 0 n n), (1, .one (slc 1 (ixP l) l.length)), (2, .one (ex (.int .i64 (k : Int)))), (3, .one (ex (.int .i64 (T : Int)))), (9, .one (ex (.int .i64 (s.1.1 : Int))))], [(1000, rows (ccq f s.1.2) n)]⟩) (fun s => 8 - s.1.1) ⟨(0, q), Nat.zero_le _, hq, fun t h => absurd h (Nat.not_lt_zero _)⟩ ?_ ?_
  ·refine Sub.mk ?_ ?_ <;> repeat (first | exact trivial | refine jV jj ?_ | refine jy jj ?_ | refine jw jj (js0 jj) ?_ | refine jw jj (aZ6 (js0 jj) (js0 jj)) ?_ | refine jw jj ⟨js0 jj, js0 jj⟩ ?_ | refine jx jj ⟨js0 jj, js0 jj⟩ ?_)
  clear hq q
  rintro ⟨⟨t, q⟩, ht, hq, hno⟩
  dsimp only at ht hq hno ⊢
  by_cases ht8 : t < 8
  ·have hlen : (rows (ccq f q) n).length = n * 5 := aZ3 (fZ9 f q) n
   have hset := ccq_set (f := f) (q := q) hx (t : Int)
   have hsl : x * 5 + 4 < (rows (ccq f q) n).length := by rw [hlen]; omega
   have hq' : ∀ i, PLe ((fun i => if i = x then ex (.int .i64 (t : Int)) else q i) i) anyC := fun i => by
    dsimp only
    split
    ·exact mZG _ _
    ·exact hq i
   have hlen2 : (rows (ccq f (fun i => if i = x then ex (.int .i64 (t : Int)) else q i)) n).length = n * 5 := aZ3 (fZ9 f _) n
   have hq5 : ((rows (ccq f (fun i => if i = x then ex (.int .i64 (t : Int)) else q i)) n).drop (x * 5)).take 5 = coc (wy (f x) (t : Int)) := by
    rw [aZo (fZ9 f _) hx]; unfold ccq; dsimp only; rw [if_pos rfl]; rfl
   have hl5 : x * 5 + 5 ≤ (rows (ccq f (fun i => if i = x then ex (.int .i64 (t : Int)) else q i)) n).length := by rw [hlen2]; omega
   generalize (fun i => if i = x then ex (.int .i64 (t : Int)) else q i) = q2 at *
   have C1 := mZ0 En (wy (f x) (t : Int))
   have w18 := wS t (by omega)
   have w40 := wS k (by omega)
   have w42 : IntKind.i64.wrap ((T : Int) + 8) = ((T + 8 : Nat) : Int) := by rw [w64 (by omega) (by omega)]; rfl
   have w44 : IntKind.i64.wrap (((T + 8 : Nat) : Int) - (t : Int)) = ((T + (8 - t) : Nat) : Int) := by rw [w64 (by omega) (by omega)]; omega
   have hnext : ¬ (legP (wy (f x) (t : Int)) ∧ fea f (l.drop (k + 1)) (T + (8 - t))) → ∀ t' : Nat, t' < t + 1 → ¬ (legP (wy (f x) (t' : Int)) ∧ fea f (l.drop (k + 1)) (T + (8 - t'))) := fun h t' h' => by
    rcases Nat.lt_or_ge t' t with z | z
    ·exact hno t' z
    ·rw [show t' = t by omega]; exact h
   by_cases hlg : legP (wy (f x) (t : Int))
   ·rw [decide_eq_true hlg] at C1
    by_cases hf : fea f (l.drop (k + 1)) (T + (8 - t))
    ·have hrt : r = true := hr.2 ⟨t, ht8, hlg, hf⟩
     subst hrt
     have C2 := ih (k + 1) (by omega) ((T + (8 - t)) % 8) (Nat.mod_lt _ (by decide)) true ⟨fun _ => (bZV (by omega)).1 hf, fun _ => rfl⟩ q2 hq'
     unfold gP at C2
     refine js (js (jr (jm jj (jS (bLt jj jj) (jn (jt jj (jp (js (jb (js (jr (jm jj (jm jj (jm jj (jS (aZc jj jj hlk hqi) (jS (aZf jj jj) (jm jj (jS (aZy jj jj hx (o' := x * 5) (by omega)) (jF jj jj (jO (aZz jj jj jj hsl hset) (jn (js (jr (jm jj (jm jj (jm jj (jS (aZc jj jj hlk hqi) (jS (aZf jj jj) (jS (aZy jj jj hx (o' := x * 5) (by omega)) (jS (cZe jj jj hl5 hq5) (jS (aZa C1 ⟨jj, trivial⟩) (jm jj (jgm jj (jgm jj (jgm jj (jg (bAd jj jj w40) (jgm jj (jg (bAd jj jj w42) (jgm jj (jg (bSu jj jj w44) (jg (bRe jj jj (tm8 _)) (jG (bZq (fun _ => 1000) C2 ⟨⟨jj, Option.some_ne_none _⟩, jj, jj, jj, trivial⟩ ⟨jj, trivial⟩ jj jj jj) (jq jj jj (jn ?_))))))))))))))))))))))))))))))))))))))))))))
     refine jt jj (js (jr (ja jj (jn (ji ?_)))))
     exact fZm rfl rfl (PLe.refl _) trivial ⟨.inl ⟨_, rfl, PsLe.refl _⟩, trivial⟩
    ·have C2 := ih (k + 1) (by omega) ((T + (8 - t)) % 8) (Nat.mod_lt _ (by decide)) false ⟨fun h => Bool.noConfusion h, fun h => absurd ((bZV (by omega)).1 h) hf⟩ q2 hq'
     unfold gP at C2
     refine js (js (jr (jm jj (jS (bLt jj jj) (jn (jt jj (jp (js (jb (js (jr (jm jj (jm jj (jm jj (jS (aZc jj jj hlk hqi) (jS (aZf jj jj) (jm jj (jS (aZy jj jj hx (o' := x * 5) (by omega)) (jF jj jj (jO (aZz jj jj jj hsl hset) (jn (js (jr (jm jj (jm jj (jm jj (jS (aZc jj jj hlk hqi) (jS (aZf jj jj) (jS (aZy jj jj hx (o' := x * 5) (by omega)) (jS (cZe jj jj hl5 hq5) (jS (aZa C1 ⟨jj, trivial⟩) (jm jj (jgm jj (jgm jj (jgm jj (jg (bAd jj jj w40) (jgm jj (jg (bAd jj jj w42) (jgm jj (jg (bSu jj jj w44) (jg (bRe jj jj (tm8 _)) (jG (bZq (fun _ => 1000) C2 ⟨⟨jj, Option.some_ne_none _⟩, jj, jj, jj, trivial⟩ ⟨jj, trivial⟩ jj jj jj) (jq jj jj (jn ?_))))))))))))))))))))))))))))))))))))))))))))
     refine jf jj (jp (jr (jm jj (jS (bAd jj jj w18) (ja jj (jn ?_))))))
     refine ⟨⟨(t + 1, fun _ => anyC), by dsimp only; omega, fun _ => PLe.refl _, hnext (fun h => hf h.2)⟩, ?_, by dsimp only; omega⟩
     dsimp only
     refine Sub.mk ?_ ?_ <;> repeat (first | exact trivial | refine jV jj ?_ | refine jy jj ?_ | refine jw jj (js0 jj) ?_ | refine jw jj (aZ6 (js0 jj) (js0 jj)) ?_ | refine jw jj ⟨js0 jj, js0 jj⟩ ?_ | refine jx jj ⟨js0 jj, js0 jj⟩ ?_)
   ·rw [decide_eq_false hlg] at C1
    refine js (js (jr (jm jj (jS (bLt jj jj) (jn (jt jj (jp (js (jb (js (jr (jm jj (jm jj (jm jj (jS (aZc jj jj hlk hqi) (jS (aZf jj jj) (jm jj (jS (aZy jj jj hx (o' := x * 5) (by omega)) (jF jj jj (jO (aZz jj jj jj hsl hset) (jn (js (jr (jm jj (jm jj (jm jj (jS (aZc jj jj hlk hqi) (jS (aZf jj jj) (jS (aZy jj jj hx (o' := x * 5) (by omega)) (jS (cZe jj jj hl5 hq5) (jS (aZa C1 ⟨jj, trivial⟩) (jm jj (jk (jk (jk (jk (jk (jk (jk (jk (jk (jk (jQ jj jj (jn ?_))))))))))))))))))))))))))))))))))))))))))))
    refine jf jj (jp (jr (jm jj (jS (bAd jj jj w18) (ja jj (jn ?_))))))
    refine ⟨⟨(t + 1, q2), by dsimp only; omega, hq', hnext (fun h => hlg h.1)⟩, ?_, by dsimp only; omega⟩
    dsimp only
    refine Sub.mk ?_ ?_ <;> repeat (first | exact trivial | refine jV jj ?_ | refine jy jj ?_ | refine jw jj (js0 jj) ?_ | refine jw jj (aZ6 (js0 jj) (js0 jj)) ?_ | refine jw jj ⟨js0 jj, js0 jj⟩ ?_ | refine jx jj ⟨js0 jj, js0 jj⟩ ?_)
  ·have hrf : r = false := by
    rw [Bool.eq_false_iff]; intro h
    obtain ⟨t', a, b⟩ := hr.1 h
    exact hno t' (by omega) b
   subst hrf
   refine js (js (jr (jm jj (jS (bLf jj jj) (jn (jf jj (je (js (jr (ja jj (jn (ji ?_))))))))))))
   exact fZm rfl rfl (PLe.refl _) trivial ⟨.inl ⟨_, rfl, kZ1 hq n⟩, trivial⟩
theorem hZc {f : Nat → Co} {g : List Nat} (hg : gU f g g.length) : ∀ {k : Nat}, 0 < k → k ≤ g.length → ysm f g k = (f (g.getD 0 0)).y
 | 1, _, _ => by show ysm f g 0 + (f (g.getD 0 0)).y = _; rw [show ysm f g 0 = 0 from rfl, Int.zero_add]
 | k + 2, _, h => by
  unfold ysm
  rw [hZc hg (k := k + 1) (by omega) (by omega), hZL.1 hg (k + 1) (by omega) (by omega)]
  omega
set_option maxHeartbeats 4000000 in
theorem kZX (p : Int) (f : Nat → Co) (n : Nat) (hn : n ≤ 20) (hfu : fusP p f n) (r : Bool) (hr : r = true ↔ FEs f (comp f n)) : Fn Tryz.prog En 112 [locP p f n] (tupP [aggP [anyC, anyC], ex (.bool r)]) := by
 have C0 := mZ2 En p f n hn
 rw [decide_eq_true hfu] at C0
 have hsU := hfu.1.2.2
 have hn0 : 0 < n := Nat.pos_of_ne_zero hfu.1.2.1
 have H : Shp f n := ⟨hn, fun k hk => (aZD hsU hk).1, fun k hk => (aZD hsU hk).2.1⟩
 have hy : ∀ i, i < n → 0 ≤ (f i).y ∧ (f i).y ≤ 7 := fun i hi => ⟨(bZ7 hfu.2.1 hi).2.1, (bZ7 hfu.2.1 hi).2.2.1⟩
 have C1 := gZ7 En p f n hn0 hn
 have C2 := hZo En f n H
 have hGi : ∀ g ∈ comp f n, g.length ≤ 20 := fun g hg => Nat.le_trans (bZY g hg) hn
 have hGt : ∀ g ∈ comp f n, ∀ k ∈ g, k < n := fun g hg => bZX g hg
 have hGn : ∀ g ∈ comp f n, g ≠ [] := fZ8
 have hl : (comp f n).length ≤ 20 := Nat.le_trans (bZ2 _ _ _).1 hn
 have hGo : ∀ g ∈ comp f n, gOK f g := by have := (fZ0 (Nat.le_refl _)).1 hfu.2.2; rwa [List.take_length] at this
 have CT := fun g (hg : g ∈ comp f n) => jZe En f n g (hGi g hg) (hGt g hg) hy
 unfold locP bZl at *
 generalize comp f n = G at *
 refine aZb Tryz.func112 rfl Tryz.ntmps112 rfl ?_
 intro w0 h0
 refine js (jr (jB jj jj jj (jA jj jj jj (ja jj (jn (js (js (jr (jL jj jj jj (jS (aZa C0 ⟨jj, trivial⟩) (jS (bNo jj) (jn (jf jj (jp (js ?_)))))))))))))))
 repeat (first | apply js | apply jb)
 refine WpD.seqR ?_
 refine WpS.S rfl rfl (aZ2 rfl rfl rfl rfl) rfl ?_
 refine WpS.S rfl rfl (dZV C1 rfl ⟨rfl, trivial⟩ rfl rfl) rfl ?_
 refine WpS.openSt (t := 12) (q := 5) rfl rfl hn0 fun blk cap hc => ?_
 refine WpS.S rfl rfl (dZb rfl rfl rfl) rfl ?_
 refine WpS.N rfl (cZd rfl rfl rfl rfl rfl rfl) rfl ?_
 refine WpS.sub (Sub.mkPl (t := 4) (q := 5) rfl rfl) ?_
 refine WpS.nil ?_
 skip
 repeat (first | apply js | apply jb)
 refine jr (jF jj jj (jl jj jj jj (jS (aZa C2 ⟨jj, trivial⟩) (jE jj (jm jj (jn (jb ?_)))))))
 refine WpD.loop (α := {s : Nat × (Nat → Pd) // s.1 ≤ G.length ∧ (∀ i, PLe (s.2 i) anyC) ∧ (FEs f G ↔ FEs f (G.drop s.1))}) (fun s => ⟨[(1, .ptr 1 0), (2, .ptr 2 0), (4, .gen (plB 4 0 12 blk)), (15, .one (slc 1 (G.map gP) G.length)), (16, .one (ex (.int .i64 (G.length : Int)))), (17, .one (ex (.int .i64 (s.1.1 : Int))))], [(1, [ex (.int .i64 p), slc 5 (rows (ccs f) n) n]), (2, [ex (.int .i64 0), ex (.slice none 0 0)]), (4, [ex (.int .i64 p), ex (gvl blk n cap)]), (12, rows (ccq f s.1.2) n)]⟩) (fun s => G.length - s.1.1) ⟨(0, fun i => ex (.int .i64 (f i).y)), Nat.zero_le _, fun _ => mZG _ _, Iff.rfl⟩ ?_ ?_
 ·dsimp only
  refine Sub.mk ?_ ?_ <;> repeat (first | exact trivial | refine jV jj ?_ | refine jy jj ?_ | refine jw jj (js0 jj) ?_ | refine jw jj (aZ6 (js0 jj) (js0 jj)) ?_ | refine jw jj ⟨js0 jj, js0 jj⟩ ?_ | refine jx jj ⟨js0 jj, js0 jj⟩ ?_)
 rintro ⟨⟨k, q⟩, hk, hq, he⟩
 dsimp only at hk hq he ⊢
 by_cases hlt : k < G.length
 ·have hqG := dZo hlt
  have w1 := wS k (by omega)
  have hmem := gmem [] hlt
  have he' : FEs f G ↔ FE f (G.getD k []) ∧ FEs f (G.drop (k + 1)) := by
   rw [he, aZY (d := []) hlt]; unfold FEs; simp
  have n1 := hGi _ hmem
  have n2 := hGt _ hmem
  have n3 := hGn _ hmem
  have n4 := hGo _ hmem
  have CT := CT _ hmem
  generalize G.getD k [] = l at *
  have hl0 : 0 < l.length := List.length_pos_iff.2 n3
  have hm0 := gmem 0 hl0
  have hx0 := n2 _ hm0
  have hy0 := hy _ hx0
  have hfe : FE f l ↔ fea f l (f (l.getD 0 0)).y.toNat := Iff.rfl
  have hyl : (f (l.getD 0 0)).y.toNat < 8 := by omega
  have hT : ysm f l l.length % 8 = (((f (l.getD 0 0)).y.toNat : Nat) : Int) := by rw [hZc n4.1 hl0 (Nat.le_refl _)]; omega
  rw [hT] at CT
  generalize (f (l.getD 0 0)).y.toNat = T at *
  unfold gP at CT hqG
  by_cases hfl : fea f l T
  ·have C3 := jZi En f n l n1 n2 l.length 0 (by omega) T hyl true ⟨fun _ => hfl, fun _ => rfl⟩ q hq
   unfold gP at C3
   refine js (jr (jS (bLt jj jj) (jn (js (jt jj (jp (js (jb (js (jr (jS (aZc jj jj hlt hqG) (jS (aZf jj jj) (ja jj (jn (js (jr (jS (aZS jj jj) (jS (bZj jj jj jj hn0 hc) (jm jj (jF jj jj (jl jj jj jj (jm jj (jS (aZa CT ⟨jj, jj, trivial⟩) (jT (bZq (fun _ => 12) C3 ⟨⟨jj, Option.some_ne_none _⟩, jj, jj, jj, trivial⟩ ⟨jj, trivial⟩ jj jj jj) (jS (bNo jj) (jn (jf jj (jp (jr (jS (bAd jj jj w1) (jm jj (jn ?_))))))))))))))))))))))))))))))))
   refine ⟨⟨(k + 1, fun _ => anyC), by dsimp only; omega, fun _ => PLe.refl _, he'.trans ⟨fun h => h.2, fun h => ⟨hfe.2 hfl, h⟩⟩⟩, ?_, by dsimp only; omega⟩
   dsimp only
   refine Sub.mk ?_ ?_ <;> repeat (first | exact trivial | refine jV jj ?_ | refine jy jj ?_ | refine jw jj (js0 jj) ?_ | refine jw jj (aZ6 (js0 jj) (js0 jj)) ?_ | refine jw jj ⟨js0 jj, js0 jj⟩ ?_ | refine jx jj ⟨js0 jj, js0 jj⟩ ?_)
  ·have C3 := jZi En f n l n1 n2 l.length 0 (by omega) T hyl false ⟨fun h => Bool.noConfusion h, fun h => absurd h hfl⟩ q hq
   unfold gP at C3
   have hrf : r = false := by
    rw [Bool.eq_false_iff]; intro h
    exact hfl (hfe.1 (he'.1 (hr.1 h)).1)
   subst hrf
   refine js (jr (jS (bLt jj jj) (jn (js (jt jj (jp (js (jb (js (jr (jS (aZc jj jj hlt hqG) (jS (aZf jj jj) (ja jj (jn (js (jr (jS (aZS jj jj) (jS (bZj jj jj jj hn0 hc) (jm jj (jF jj jj (jl jj jj jj (jm jj (jS (aZa CT ⟨jj, jj, trivial⟩) (jT (bZq (fun _ => 12) C3 ⟨⟨jj, Option.some_ne_none _⟩, jj, jj, jj, trivial⟩ ⟨jj, trivial⟩ jj jj jj) (jS (bNo jj) (jn (jt jj (js (jr (jS (aZl (ps := []) trivial jj) (jP jj jj jj jj (ja jj (jn (ji ?_))))))))))))))))))))))))))))))))))
   exact ret2 rfl (.cell rfl rfl CRow.ok rfl) (.tmp rfl) (dZH _ _ _)
 ·have hrt : r = true := hr.2 (he.2 (by rw [List.drop_of_length_le (by omega)]; unfold FEs; simp))
  subst hrt
  refine js (jr (jS (bLf jj jj) (jn (js (jf jj (je ?_))))))
  refine WpD.sub (Sub.unPl (t := 4) rfl) ?_
  repeat (first | apply js | apply jb)
  refine jr (jL jj jj jj (jP jj jj jj jj (ja jj (jn (ji ?_)))))
  exact ret2 rfl (.cell rfl rfl CRow.ok rfl) (.tmp rfl) (dZH _ _ _)
end
end Go.Proofs.YtdieokoenhncfaaGreatDoor
/- The reference's Fuse, step, Canonical. (With LT.skipU.) -/
namespace Go.Proofs.YtdieokoenhncfaaGreatDoor
open Go.RowKit Limb Num
instance cbody42 : CBody Tryz.prog 42 := ⟨⟨_, Tryz.func42, rfl, by rfl⟩⟩
instance cbody45 : CBody Tryz.prog 45 := ⟨⟨_, Tryz.func45, rfl, by rfl⟩⟩
instance cbody22 : CBody Tryz.prog 22 := ⟨⟨_, Tryz.func22, rfl, by rfl⟩⟩
def fzy (f : Nat → Co) (n i : Nat) : Int := if (cof (comp f n) i).getD 0 0 = i then ysm f (cof (comp f n) i) (cof (comp f n) i).length % 8 else 0
def fzk (f : Nat → Co) (n k : Nat) : Nat → Co := fun i => if i ∈ ((comp f n).take k).flatten then wy (f i) (fzy f n i) else f i
def fzf (f : Nat → Co) (n : Nat) : Nat → Co := fun i => if i ∈ (comp f n).flatten then wy (f i) (fzy f n i) else f i
theorem fzk_all (f : Nat → Co) (n : Nat) : fzk f n (comp f n).length = fzf f n := by unfold fzk fzf; rw [List.take_length]
theorem lZt (f : Nat → Co) (n : Nat) : fzk f n 0 = f := by unfold fzk; simp
def fzj (f : Nat → Co) (n k : Nat) (l : List Nat) (j : Nat) : Nat → Co := fun i => if i ∈ l.take j then wy (f i) 0 else fzk f n k i
theorem wy_fzk (f : Nat → Co) (n k i : Nat) (t : Int) : wy (fzk f n k i) t = wy (f i) t := by unfold fzk; split <;> rfl
theorem lZv (f : Nat → Co) (n k : Nat) (l : List Nat) : fzj f n k l 0 = fzk f n k := by unfold fzj; simp
theorem lZw {f : Nat → Co} {n k : Nat} {l : List Nat} {j : Nat} (hj : j < l.length) : (fun i => if i = l.getD j 0 then wy (fzj f n k l j (l.getD j 0)) 0 else fzj f n k l j i) = fzj f n k l (j + 1) := by
 funext i
 have e : l.take (j + 1) = l.take j ++ [l.getD j 0] := by rw [List.take_succ_eq_append_getElem hj]; simp [List.getD, List.getElem?_eq_getElem hj]
 by_cases h : i = l.getD j 0
 ·rw [if_pos h, ← h]
  have : i ∈ l.take (j + 1) := by rw [e, ← h]; simp
  unfold fzj
  rw [if_pos this]
  split
  ·rfl
  ·exact wy_fzk f n k i 0
 ·rw [if_neg h]
  unfold fzj
  have : i ∈ l.take (j + 1) ↔ i ∈ l.take j := by
   rw [e, List.mem_append, List.mem_singleton]
   exact ⟨fun q => q.elim id (fun q => absurd q h), .inl⟩
  by_cases h2 : i ∈ l.take j
  ·rw [if_pos h2, if_pos (this.2 h2)]
  ·rw [if_neg h2, if_neg (fun h3 => h2 (this.1 h3))]
theorem lZu {f : Nat → Co} {n k : Nat} (hk : k < (comp f n).length) : (fun i => if i = ((comp f n).getD k []).getD 0 0 then wy (fzj f n k ((comp f n).getD k []) ((comp f n).getD k []).length (((comp f n).getD k []).getD 0 0)) (ysm f ((comp f n).getD k []) ((comp f n).getD k []).length % 8) else fzj f n k ((comp f n).getD k []) ((comp f n).getD k []).length i) = fzk f n (k + 1) := by
 have hmem := gmem [] hk
 have hts : (comp f n).take (k + 1) = (comp f n).take k ++ [(comp f n).getD k []] := by rw [List.take_succ_eq_append_getElem hk]; simp [List.getD, List.getElem?_eq_getElem hk]
 have hco := fun i => mZS (dZO f n) hmem (i := i)
 have hnn := fZ8 _ hmem
 have hno := fun x => hZY (dZO f n) hk (x := x)
 funext i
 have hin : i ∈ ((comp f n).take (k + 1)).flatten ↔ i ∈ ((comp f n).take k).flatten ∨ i ∈ (comp f n).getD k [] := by rw [hts, List.flatten_append]; simp
 generalize (comp f n).getD k [] = l at *
 have hl0 : 0 < l.length := List.length_pos_iff.2 hnn
 have hm0 := gmem 0 hl0
 have hfz : ∀ i ∈ l, fzy f n i = if l.getD 0 0 = i then ysm f l l.length % 8 else 0 := fun i hi => by unfold fzy; rw [hco i hi]
 unfold fzj
 rw [List.take_length]
 by_cases h : i = l.getD 0 0
 ·rw [if_pos h, ← h]
  rw [← h] at hm0
  rw [if_pos hm0]
  unfold fzk
  rw [if_pos (hin.2 (.inr hm0)), hfz i hm0, if_pos h.symm]
  rfl
 ·rw [if_neg h]
  by_cases h2 : i ∈ l
  ·rw [if_pos h2]
   unfold fzk
   rw [if_pos (hin.2 (.inr h2)), hfz i h2, if_neg (fun e => h e.symm)]
  ·rw [if_neg h2]
   unfold fzk
   by_cases h3 : i ∈ ((comp f n).take k).flatten
   ·rw [if_pos h3, if_pos (hin.2 (.inl h3))]
   ·rw [if_neg h3, if_neg (fun h4 => (hin.1 h4).elim h3 h2)]
theorem fZu {f : Nat → Co} {n i : Nat} (h : lgU f n) (hi : i < n) : legP (f i) := (hZB (i := i + 1) (by omega) h).2
section
variable (En : Ev)
set_option maxHeartbeats 4000000 in
theorem rfuse (p : Int) (f : Nat → Co) (n : Nat) (hn : n ≤ 20) (hraw : rawP p f n) : Fn Tryz.prog En 42 [locP p f n] (tupP [locP p (fzf f n) n, ex (.bool true)]) := by
 have C0 := jZb En p f n (by omega)
 rw [decide_eq_true hraw] at C0
 have hsU := hraw.1.2.2
 have hn0 : 0 < n := Nat.pos_of_ne_zero hraw.1.2.1
 have H : Shp f n := ⟨hn, fun k hk => (aZD hsU hk).1, fun k hk => (aZD hsU hk).2.1⟩
 have hy : ∀ i, i < n → 0 ≤ (f i).y ∧ (f i).y ≤ 7 := fun i hi => by have := fZu hraw.2 hi; unfold legP at this; omega
 have C1 := gZ7 En p f n hn0 hn
 have C2 := hZo En f n H
 have hGi : ∀ g ∈ comp f n, g.length ≤ 20 := fun g hg => Nat.le_trans (bZY g hg) hn
 have hGt : ∀ g ∈ comp f n, ∀ k ∈ g, k < n := fun g hg => bZX g hg
 have hGn : ∀ g ∈ comp f n, g ≠ [] := fZ8
 have hl : (comp f n).length ≤ 20 := Nat.le_trans (bZ2 _ _ _).1 hn
 have CT := fun g (hg : g ∈ comp f n) => jZe En f n g (hGi g hg) (hGt g hg) hy
 have hz0 := lZt f n
 have hzn := fzk_all f n
 have hzs := fun k => lZu (f := f) (n := n) (k := k)
 unfold locP bZl at *
 generalize comp f n = G at *
 refine aZb Tryz.func42 rfl Tryz.ntmps42 rfl ?_
 intro w0 h0
 refine js (jr (jB jj jj jj (jA jj jj jj (ja jj (jn (js (js (jr (jL jj jj jj (jS (aZa C0 ⟨jj, trivial⟩) (jS (bNo jj) (jn (jf jj (jp (js ?_)))))))))))))))
 repeat (first | apply js | apply jb)
 refine WpD.seqR ?_
 refine WpS.S rfl rfl (aZ2 rfl rfl rfl rfl) rfl ?_
 refine WpS.S rfl rfl (dZV C1 rfl ⟨rfl, trivial⟩ rfl rfl) rfl ?_
 refine WpS.openSt (t := 14) (q := 5) rfl rfl hn0 fun blk cap hc => ?_
 refine WpS.S rfl rfl (dZb rfl rfl rfl) rfl ?_
 refine WpS.N rfl (cZd rfl rfl rfl rfl rfl rfl) rfl ?_
 refine WpS.sub (Sub.mkPl (t := 4) (q := 5) rfl rfl) ?_
 refine WpS.nil ?_
 skip
 repeat (first | apply js | apply jb)
 refine jr (jF jj jj (jl jj jj jj (jS (aZa C2 ⟨jj, trivial⟩) (jE jj (jm jj (jn (jb ?_)))))))
 refine WpD.loop (α := {k : Nat // k ≤ G.length}) (fun k => ⟨[(1, .ptr 1 0), (2, .ptr 2 0), (4, .gen (plB 4 0 14 blk)), (5, .pin 14 blk), (17, .one (slc 1 (G.map gP) G.length)), (18, .one (ex (.int .i64 (G.length : Int)))), (19, .one (ex (.int .i64 (k.1 : Int))))], [(1, [ex (.int .i64 p), slc 5 (rows (ccs f) n) n]), (2, [ex (.int .i64 0), ex (.slice none 0 0)]), (4, [ex (.int .i64 p), ex (gvl blk n cap)]), (14, rows (ccs (fzk f n k.1)) n)]⟩) (fun k => G.length - k.1) ⟨0, Nat.zero_le _⟩ ?_ ?_
 ·dsimp only
  rw [hz0]
  refine Sub.mk ?_ ?_ <;> repeat (first | exact trivial | refine jV jj ?_ | refine jy jj ?_ | refine jw jj (js0 jj) ?_ | refine jw jj (aZ6 (js0 jj) (js0 jj)) ?_)
 rintro ⟨k, hk⟩
 dsimp only at hk ⊢
 by_cases hlt : k < G.length
 ·have hqG := dZo hlt
  have w1 := wS k (by omega)
  have hmem := gmem [] hlt
  have hzs := hzs k hlt
  have n1 := hGi _ hmem
  have n2 := hGt _ hmem
  have n3 := hGn _ hmem
  have CT := CT _ hmem
  generalize G.getD k [] = l at *
  unfold gP at hqG CT
  refine js (jr (jS (bLt jj jj) (jn (js (jt jj (jp (js (jb (js (jr (jS (aZc jj jj hlt hqG) (jS (aZf jj jj) (ja jj (jn (js (js (jr (jm jj (jE jj (jm jj (jn (jb ?_))))))))))))))))))))))
  refine WpD.loop (α := {j : Nat // j ≤ l.length}) (fun j => ⟨[(1, .ptr 1 0), (2, .ptr 2 0), (4, .gen (plB 4 0 14 blk)), (5, .pin 14 blk), (6, .one (slc 1 (ixP l) l.length)), (17, .one (slc 1 (G.map gP) G.length)), (18, .one (ex (.int .i64 (G.length : Int)))), (19, .one (ex (.int .i64 (k : Int)))), (23, .one (slc 1 (ixP l) l.length)), (24, .one (ex (.int .i64 (l.length : Int)))), (25, .one (ex (.int .i64 (j.1 : Int))))], [(1, [ex (.int .i64 p), slc 5 (rows (ccs f) n) n]), (2, [ex (.int .i64 0), ex (.slice none 0 0)]), (4, [ex (.int .i64 p), ex (gvl blk n cap)]), (14, rows (ccs (fzj f n k l j.1)) n)]⟩) (fun j => l.length - j.1) ⟨0, Nat.zero_le _⟩ ?_ ?_
  ·dsimp only
   rw [lZv]
   refine Sub.mk ?_ ?_ <;> repeat (first | exact trivial | refine jV jj ?_ | refine jy jj ?_ | refine jw jj (js0 jj) ?_ | refine jw jj (aZ6 (js0 jj) (js0 jj)) ?_)
  rintro ⟨j, hj⟩
  dsimp only at hj ⊢
  by_cases hlj : j < l.length
  ·have hqi := bZy hlj
   have hmi := gmem 0 hlj
   have hx := n2 _ hmi
   have hset := cZ2 (g := fzj f n k l j) hx 0
   rw [lZw hlj] at hset
   have hlen : (rows (ccs (fzj f n k l j)) n).length = n * 5 := aZ3 (aZp _) n
   have hsl : l.getD j 0 * 5 + 4 < (rows (ccs (fzj f n k l j)) n).length := by rw [hlen]; omega
   have w34 := wS j (by omega)
   generalize l.getD j 0 = x at *
   refine js (jr (jS (bLt jj jj) (jn (js (jt jj (jp (js (jb (js (jr (jS (aZc jj jj hlj hqi) (jS (aZf jj jj) (ja jj (jn (jr (jS (aZS jj jj) (jS (bZj jj jj jj hn0 hc) (jm jj (jS (aZy jj jj hx (o' := x * 5) (by omega)) (jF jj jj (jO (aZz jj jj jj hsl hset) (jn (jr (jS (bAd jj jj w34) (jm jj (jn ?_))))))))))))))))))))))))))
   refine ⟨⟨j + 1, by omega⟩, ?_, by dsimp only; omega⟩
   dsimp only
   refine Sub.mk ?_ ?_ <;> repeat (first | exact trivial | refine jV jj ?_ | refine jy jj ?_ | refine jw jj (js0 jj) ?_ | refine jw jj (aZ6 (js0 jj) (js0 jj)) ?_)
  ·have hjl : j = l.length := by omega
   subst hjl
   have hl0 : 0 < l.length := List.length_pos_iff.2 n3
   have hq0 := bZy hl0
   have hm0 := gmem 0 hl0
   have hx := n2 _ hm0
   have hset := cZ2 (g := fzj f n k l l.length) hx (ysm f l l.length % 8)
   rw [hzs] at hset
   have hlen : (rows (ccs (fzj f n k l l.length)) n).length = n * 5 := aZ3 (aZp _) n
   have hsl : l.getD 0 0 * 5 + 4 < (rows (ccs (fzj f n k l l.length)) n).length := by rw [hlen]; omega
   generalize l.getD 0 0 = x at *
   refine js (jr (jS (bLf jj jj) (jn (js (jf jj (je (jr (jS (aZS jj jj) (jS (bZj jj jj jj hn0 hc) (jm jj (jS (aZc (i := 0) jj jj hl0 hq0) (jS (aZf jj jj) (jF jj jj (jl jj jj jj (jm jj (jS (aZa CT ⟨jj, jj, trivial⟩) (jS (aZy jj jj hx (o' := x * 5) (by omega)) (jF jj jj (jO (aZz jj jj jj hsl hset) (jn (jr (jS (bAd jj jj w1) (jm jj (jn ?_))))))))))))))))))))))))
   refine ⟨⟨k + 1, by omega⟩, ?_, by dsimp only; omega⟩
   dsimp only
   refine Sub.mk ?_ ?_ <;> repeat (first | exact trivial | refine jV jj ?_ | refine jy jj ?_ | refine jw jj (js0 jj) ?_ | refine jw jj (aZ6 (js0 jj) (js0 jj)) ?_)
 ·have hkG : k = G.length := by omega
  subst hkG
  rw [hzn]
  refine js (jr (jS (bLf jj jj) (jn (js (jf jj (je ?_))))))
  refine WpD.sub (Sub.unPl (t := 4) rfl) ?_
  refine WpD.sub (τ := ⟨[(2, .ptr 2 0), (4, .ptr 4 0)], [(4, [ex (.int .i64 p), slc 5 (rows (ccs (fzf f n)) n) n]), (2, [ex (.int .i64 0), ex (.slice none 0 0)])]⟩) ?_ ?_
  ·exact Sub.trans (Sub.pubCell (bx0 := [(4, [ex (.int .i64 p), ex (gvl blk n cap)]), (2, [ex (.int .i64 0), ex (.slice none 0 0)])]) (sl := [(2, .ptr 2 0), (4, .ptr 4 0)]) (b := 14) (d := 4) (p := 5) (k := 5) rfl rfl (aZ3 (aZp _) n) rfl rfl hn0 hc.1 hc.2 ⟨.inl ⟨_, rfl, PsLe.refl _⟩, .inl ⟨_, rfl, PsLe.refl _⟩, trivial⟩ rfl ⟨⟨_, rfl, rfl⟩, Option.some_ne_none _, ⟨_, rfl, rfl⟩, Option.some_ne_none _, trivial⟩) (Sub.mk (by repeat (first | exact trivial | refine jv rfl ?_ | refine jw rfl (js0 rfl) ?_)) (by repeat (first | exact trivial | refine jz ?_ | refine jy rfl ?_)))
  repeat (first | apply js | apply jb)
  refine jr (jL jj jj jj (jP jj jj jj jj (ja jj (jn (ji ?_)))))
  exact rtD rfl jj jj jj
end
end Go.Proofs.YtdieokoenhncfaaGreatDoor

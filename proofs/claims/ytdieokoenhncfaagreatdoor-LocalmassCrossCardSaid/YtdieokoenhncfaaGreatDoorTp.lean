/- Groups: in order, without common members; the compartment of an index. Plain. -/
import Derived.Test.YtdieokoenhncfaaGreatDoorTi
import Derived.Test.YtdieokoenhncfaaGreatDoorMem
import Derived.Test.YtdieokoenhncfaaGreatDoorTk
set_option maxRecDepth 3000
namespace Go.Proofs.YtdieokoenhncfaaGreatDoor
open Go.RowKit Limb Num
theorem hZI (b j : Nat → Bool) : ∀ i, ((grps b j i).1.flatten ++ (grps b j i).2).Pairwise (· < ·)
 | 0 => by simp [grps]
 | i + 1 => by
  have h1 := hZI b j i
  obtain ⟨l1, l2⟩ := gZN b j i
  have hlt : ∀ a ∈ (grps b j i).1.flatten ++ (grps b j i).2, a < i := fun a ha => by
   rcases List.mem_append.1 ha with h | h
   ·obtain ⟨g, hg, ha⟩ := List.mem_flatten.1 h
    exact l1 g hg a ha
   ·exact l2 a h
  have key : ((grps b j i).1.flatten ++ (grps b j i).2 ++ [i]).Pairwise (· < ·) := List.pairwise_append.2 ⟨h1, by simp, fun a ha c hc => by simp at hc; subst hc; exact hlt a ha⟩
  rw [grps]
  split
  ·exact h1
  ·split
   ·dsimp only
    rw [← List.append_assoc]; exact key
   ·dsimp only
    split
    ·rename_i e
     rw [e, List.append_nil] at key; exact key
    ·rw [List.flatten_append]; simpa using key
theorem iZb {b j : Nat → Bool} {n : Nat} : (allG (grps b j n)).flatten.Pairwise (· < ·) := by
 have h := hZI b j n
 unfold allG
 split
 ·rename_i e; rw [e, List.append_nil] at h; exact h
 ·rw [List.flatten_append]; simpa using h
theorem hZY {G : List (List Nat)} (h : G.flatten.Pairwise (· < ·)) {k x : Nat} (hk : k < G.length) (hx : x ∈ G.getD k []) : x ∉ (G.take k).flatten := by
 intro hc
 have e : G = G.take k ++ G.getD k [] :: G.drop (k + 1) := by
  rw [← aZY hk, List.take_append_drop]
 rw [e, List.flatten_append] at h
 have := (List.pairwise_append.1 h).2.2 x hc x (by rw [List.flatten_cons]; exact List.mem_append_left _ hx)
 omega
theorem hZH {b j : Nat → Bool} : ∀ {n i : Nat}, i ∈ (grps b j n).1.flatten ++ (grps b j n).2 ↔ i < n ∧ b i = true
 | 0, i => by simp [grps]
 | n + 1, i => by
  have h1 := hZH (b := b) (j := j) (n := n) (i := i)
  rw [grps]
  split
  ·rename_i hb
   rw [h1]
   constructor
   ·rintro ⟨a, c⟩; exact ⟨by omega, c⟩
   ·rintro ⟨a, c⟩
    refine ⟨?_, c⟩
    rcases Nat.lt_or_ge i n with h | h
    ·exact h
    ·rw [show i = n by omega, hb] at c; exact Bool.noConfusion c
  ·rename_i hb
   have hbt : b n = true := by simpa using hb
   have key : i ∈ (grps b j n).1.flatten ++ (grps b j n).2 ++ [n] ↔ i < n + 1 ∧ b i = true := by
    rw [List.mem_append, h1]
    constructor
    ·rintro (⟨a, c⟩ | h)
     ·exact ⟨by omega, c⟩
     ·simp at h; subst h; exact ⟨by omega, hbt⟩
    ·rintro ⟨a, c⟩
     rcases Nat.lt_or_ge i n with h | h
     ·exact .inl ⟨h, c⟩
     ·exact .inr (by simp; omega)
   split
   ·dsimp only
    rw [← List.append_assoc]; exact key
   ·dsimp only
    split
    ·rename_i e
     rw [e, List.append_nil] at key; exact key
    ·rw [List.flatten_append]; simpa using key
theorem mZf {b j : Nat → Bool} {n i : Nat} : i ∈ (allG (grps b j n)).flatten ↔ i < n ∧ b i = true := by
 rw [← hZH (j := j)]
 unfold allG
 split
 ·rename_i e; rw [e, List.append_nil]
 ·rw [List.flatten_append]; simp
theorem dZP {G : List (List Nat)} {i : Nat} (h : i ∈ G.flatten) : cof G i ∈ G ∧ i ∈ cof G i := by
 induction G with
 | nil => simp at h
 | cons g G ih =>
  rw [cof]
  split
  ·rename_i hi; exact ⟨by simp, hi⟩
  ·rename_i hi
   rw [List.flatten_cons, List.mem_append] at h
   have := ih (h.resolve_left hi)
   exact ⟨by simp [this.1], this.2⟩
theorem mZS {G : List (List Nat)} (h : G.flatten.Pairwise (· < ·)) {g : List Nat} {i : Nat} (hg : g ∈ G) (hi : i ∈ g) : cof G i = g := by
 induction G with
 | nil => cases hg
 | cons a G ih =>
  rw [List.flatten_cons] at h
  obtain ⟨_, h2, h3⟩ := List.pairwise_append.1 h
  rw [cof]
  rcases List.mem_cons.1 hg with e | e
  ·subst e; rw [if_pos hi]
  ·rw [if_neg (fun hc => by have := h3 i hc i (List.mem_flatten.2 ⟨g, e, hi⟩); omega)]
   exact ih h2 e
theorem kZ3 {G : List (List Nat)} (h : G.flatten.Pairwise (· < ·)) {g : List Nat} (hg : g ∈ G) : g.Pairwise (· < ·) := by
 induction G with
 | nil => cases hg
 | cons a G ih =>
  rw [List.flatten_cons] at h
  obtain ⟨h1, h2, _⟩ := List.pairwise_append.1 h
  rcases List.mem_cons.1 hg with e | e
  ·subst e; exact h1
  ·exact ih h2 e
theorem mZb {g : List Nat} (h : g.Pairwise (· < ·)) {k : Nat} (h0 : 0 < k) (hk : k < g.length) : g.getD 0 0 ≠ g.getD k 0 := by
 have := List.pairwise_iff_getElem.1 h 0 k (by omega) hk h0
 simp only [List.getD, List.getElem?_eq_getElem (show 0 < g.length by omega), List.getElem?_eq_getElem hk, Option.getD_some]
 omega
theorem dZO (f : Nat → Co) (n : Nat) : (comp f n).flatten.Pairwise (· < ·) := iZb
theorem cZE {f : Nat → Co} {n i : Nat} : i ∈ (comp f n).flatten ↔ i < n ∧ (f i).o = true := mZf
theorem fZ8 {f : Nat → Co} {n : Nat} : ∀ g ∈ comp f n, g ≠ [] := fun g hg => fZB g hg
theorem hZL {f : Nat → Co} {g : List Nat} : ∀ {m : Nat}, gU f g m ↔ ∀ k, k < m → 0 < k → (f (g.getD k 0)).y = 0
 | 0 => by unfold gU; exact ⟨fun _ k h => absurd h (Nat.not_lt_zero _), fun _ => trivial⟩
 | m + 1 => by
  unfold gU
  rw [hZL]
  constructor
  ·rintro ⟨a, b⟩ k hk h0
   rcases Nat.lt_or_ge k m with h | h
   ·exact a k h h0
   ·rw [show k = m by omega] at h0 ⊢; exact b h0
  ·intro h; exact ⟨fun k hk => h k (by omega), fun h0 => h m (by omega) h0⟩
theorem fZ0 {f : Nat → Co} {G : List (List Nat)} : ∀ {m : Nat}, m ≤ G.length → (grU f G m ↔ ∀ g ∈ G.take m, gOK f g)
 | 0, _ => by unfold grU; simp
 | m + 1, h => by
  unfold grU
  rw [fZ0 (by omega), List.take_succ_eq_append_getElem (by omega)]
  have e : G.getD m [] = G[m]'(by omega) := by simp [List.getD, List.getElem?_eq_getElem (show m < G.length by omega)]
  rw [e]
  constructor
  ·rintro ⟨a, b⟩ g hg
   rcases List.mem_append.1 hg with q | q
   ·exact a g q
   ·simp at q; subst q; exact b
  ·intro q
   exact ⟨fun g hg => q g (List.mem_append_left _ hg), q _ (List.mem_append_right _ (by simp))⟩
end Go.Proofs.YtdieokoenhncfaaGreatDoor
/- The program's Refine: whether every compartment's oddities can be chosen. (With LT.skipU.) -/
namespace Go.Proofs.YtdieokoenhncfaaGreatDoor
open Go.RowKit Limb Num
theorem lst_ex (g : Nat → Co) (c : Co) (l : List Nat) (T : Nat) : ∃ r, lstP g c l T r := by
 have h : ∀ m : Nat, m ≤ 8 → (∃ v : Nat, v < m ∧ (legP (wy c (v : Int)) ∧ fea g l (T + (8 - v))) ∧ ∀ t : Nat, t < v → ¬ (legP (wy c (t : Int)) ∧ fea g l (T + (8 - t)))) ∨ ∀ t : Nat, t < m → ¬ (legP (wy c (t : Int)) ∧ fea g l (T + (8 - t))) := by
  intro m
  induction m with
  | zero => intro _; exact .inr fun t ht => absurd ht (Nat.not_lt_zero _)
  | succ m ih =>
   intro hm
   rcases ih (by omega) with ⟨v, h1, h2⟩ | h
   ·exact .inl ⟨v, by omega, h2⟩
   ·by_cases hq : legP (wy c (m : Int)) ∧ fea g l (T + (8 - m))
    ·exact .inl ⟨m, by omega, hq, h⟩
    ·refine .inr fun t ht => ?_
     rcases Nat.lt_or_ge t m with q | q
     ·exact h t q
     ·rw [show t = m by omega]; exact hq
 rcases h 8 (Nat.le_refl _) with ⟨v, h1, h2, h3⟩ | h
 ·exact ⟨some v, h1, h2, h3⟩
 ·exact ⟨none, h⟩
theorem fZ4 {g : Nat → Co} {i : Nat} {l : List Nat} {s : Nat} : fea g (i :: l) s ↔ ∃ t : Nat, t < 8 ∧ legP (wy (g i) (t : Int)) ∧ fea g l (s + (8 - t)) := by rw [fea]
def FE (f : Nat → Co) (g : List Nat) : Prop := fea f g (f (g.getD 0 0)).y.toNat
instance (f : Nat → Co) (g : List Nat) : Decidable (FE f g) := by unfold FE; infer_instance
def FEs (f : Nat → Co) (G : List (List Nat)) : Prop := ∀ g ∈ G, FE f g
instance (f : Nat → Co) (G : List (List Nat)) : Decidable (FEs f G) := by unfold FEs; infer_instance
section
variable (En : Ev)
set_option maxHeartbeats 4000000 in
theorem trefine (p : Int) (f : Nat → Co) (n : Nat) (hn : n ≤ 20) (hfu : fusP p f n) (r : Bool) (hr : r = true ↔ FEs f (comp f n)) : Fn Tryz.prog En 98 [locP p f n] (tupP [aggP [anyC, anyC], ex (.bool r)]) := by
 have C0 := mZm En p f n hn
 rw [decide_eq_true hfu] at C0
 have hsU := hfu.1.2.2
 have hn0 : 0 < n := Nat.pos_of_ne_zero hfu.1.2.1
 have H : Shp f n := ⟨hn, fun k hk => (aZD hsU hk).1, fun k hk => (aZD hsU hk).2.1⟩
 have hy : ∀ i, i < n → 0 ≤ (f i).y ∧ (f i).y ≤ 7 := fun i hi => ⟨(bZ7 hfu.2.1 hi).2.1, (bZ7 hfu.2.1 hi).2.2.1⟩
 have C1 := tclone En f n hn0 hn
 have C2 := iZQ En p f n H
 have hGi : ∀ g ∈ comp f n, g.length ≤ 20 := fun g hg => Nat.le_trans (bZY g hg) hn
 have hGt : ∀ g ∈ comp f n, ∀ k ∈ g, k < n := fun g hg => bZX g hg
 have hGn : ∀ g ∈ comp f n, g ≠ [] := fun g hg => fZB g hg
 have hl : (comp f n).length ≤ 20 := Nat.le_trans (bZ2 _ _ _).1 hn
 have hasc : (comp f n).flatten.Pairwise (· < ·) := iZb
 unfold locP bZl at *
 generalize comp f n = G at *
 refine aZb Tryz.func98 rfl Tryz.ntmps98 rfl ?_
 intro w0 h0
 refine js (jr (jB jj jj jj (jA jj jj jj (ja jj (jn (js (js (jr (jL jj jj jj (jS (aZa C0 ⟨jj, trivial⟩) (jS (bNo jj) (jn (jf jj (jp (js (jr (jF jj jj (jl jj jj jj (jT (dZK C1 jj ⟨jj, trivial⟩ jj jj) (ja jj (jn (js (js (jr (jL jj jj jj (jS (aZa C2 ⟨jj, trivial⟩) (jE jj (jm jj (jn (jb ?_))))))))))))))))))))))))))))))
 refine WpD.loop (α := {q : Nat × (Nat → Co) // q.1 ≤ G.length ∧ (∀ i t, wy (q.2 i) t = wy (f i) t) ∧ (∀ i, i ∉ (G.take q.1).flatten → q.2 i = f i) ∧ (FEs f G ↔ FEs f (G.drop q.1))}) (fun q => ⟨[(2, .ptr 2 0), (4, .own 18 0 n n), (20, .one (slc 1 (G.map gP) G.length)), (21, .one (ex (.int .i64 (G.length : Int)))), (22, .one (ex (.int .i64 (q.1.1 : Int))))], [(2, [ex (.int .i64 0), ex (.slice none 0 0)]), (18, rows (ccs q.1.2) n)]⟩) (fun q => G.length - q.1.1) ⟨(0, f), Nat.zero_le _, fun _ _ => rfl, fun _ _ => rfl, Iff.rfl⟩ ?_ ?_
 ·refine Sub.mk ?_ ?_ <;> repeat (first | exact trivial | refine jV jj ?_ | refine jy jj ?_ | refine jw jj (js0 jj) ?_)
 rintro ⟨⟨k, g⟩, hk, hw, hun, he⟩
 dsimp only at hk hw hun he ⊢
 by_cases hlt : k < G.length
 ·have hq := dZo hlt
  have w1 := wS k (by omega)
  have hmem := gmem [] hlt
  have hts : G.take (k + 1) = G.take k ++ [G.getD k []] := by rw [List.take_succ_eq_append_getElem hlt]; simp [List.getD, List.getElem?_eq_getElem hlt]
  have hnt := fun x => hZY hasc hlt (x := x)
  have he' : FEs f G ↔ FE f (G.getD k []) ∧ FEs f (G.drop (k + 1)) := by
   rw [he, aZY (d := []) hlt]; unfold FEs; simp
  have n1 := hGi _ hmem
  have n2 := hGt _ hmem
  have n3 := hGn _ hmem
  generalize G.getD k [] = l at *
  have hl0 : 0 < l.length := List.length_pos_iff.2 n3
  have hq0 := bZy hl0
  have hm0 := gmem 0 hl0
  have hx0 := n2 _ hm0
  have hg0 : g (l.getD 0 0) = f (l.getD 0 0) := hun _ (hnt _ hm0)
  have hy0 := hy _ hx0
  have hfe : FE f l ↔ fea f l (f (l.getD 0 0)).y.toNat := Iff.rfl
  have hyn : (f (l.getD 0 0)).y = (((f (l.getD 0 0)).y.toNat : Nat) : Int) := by omega
  have hyl : (f (l.getD 0 0)).y.toNat < 8 := by omega
  have hlen : (rows (ccs g) n).length = n * 5 := aZ3 (aZp g) n
  have hcell : (rows (ccs g) n)[l.getD 0 0 * 5 + 4]? = some (ex (.int .i64 (((f (l.getD 0 0)).y.toNat : Nat) : Int))) := by
   have h5 : ((rows (ccs g) n).drop (l.getD 0 0 * 5)).take 5 = coc (g (l.getD 0 0)) := aZo (aZp g) hx0
   have h6 : (((rows (ccs g) n).drop (l.getD 0 0 * 5)).take 5)[4]? = some (ex (.int .i64 (g (l.getD 0 0)).y)) := by rw [h5]; rfl
   rw [List.getElem?_take_of_lt (by decide), List.getElem?_drop] at h6
   rw [h6, hg0, ← hyn]
  generalize hT : (f (l.getD 0 0)).y.toNat = T at *
  generalize hz : l.getD 0 0 = z at *
  unfold gP at hq
  refine js (jr (jS (bLt jj jj) (jn (js (jt jj (jp (js (jb (js (jr (jS (aZc jj jj hlt hq) (jS (aZf jj jj) (ja jj (jn (js (jr (jm jj (jm jj (jS (aZc (i := 0) jj jj hl0 hq0) (jS (aZf jj jj) (jS (aZy jj jj hx0 (o' := z * 5) (by omega)) (jF jj jj (jS (aZt jj jj hcell) (ja jj (jn (js (jr (jm jj (jE jj (jm jj (jn (jb ?_))))))))))))))))))))))))))))))))
  refine WpD.loop (α := {q : Nat × (Nat → Co) × Nat // q.1 ≤ l.length ∧ q.2.2 < 8 ∧ (∀ i t, wy (q.2.1 i) t = wy (f i) t) ∧ (∀ i, i ∉ (G.take (k + 1)).flatten → q.2.1 i = f i) ∧ (fea f l T ↔ fea f (l.drop q.1) q.2.2) ∧ (q.1 = 0 ∨ fea f (l.drop q.1) q.2.2)}) (fun q => ⟨[(2, .ptr 2 0), (4, .own 18 0 n n), (6, .one (slc 1 (ixP l) l.length)), (7, .one (ex (.int .i64 (q.1.2.2 : Int)))), (20, .one (slc 1 (G.map gP) G.length)), (21, .one (ex (.int .i64 (G.length : Int)))), (22, .one (ex (.int .i64 (k : Int)))), (33, .one (slc 1 (ixP l) l.length)), (34, .one (ex (.int .i64 (l.length : Int)))), (35, .one (ex (.int .i64 (q.1.1 : Int))))], [(2, [ex (.int .i64 0), ex (.slice none 0 0)]), (18, rows (ccs q.1.2.1) n)]⟩) (fun q => l.length - q.1.1) ⟨(0, g, T), Nat.zero_le _, hyl, hw, fun i hi => hun i (fun h => hi (by rw [hts, List.flatten_append]; exact List.mem_append_left _ h)), Iff.rfl, .inl rfl⟩ ?_ ?_
  ·refine Sub.mk ?_ ?_ <;> repeat (first | exact trivial | refine jV jj ?_ | refine jy jj ?_ | refine jw jj (js0 jj) ?_)
  clear hcell hlen hg0 hun hw g
  rintro ⟨⟨j, g, S⟩, hj, hS, hw, hun, hef, htr⟩
  dsimp only at hj hS hw hun hef htr ⊢
  by_cases hlj : j < l.length
  ·have hqi := bZy hlj
   have hmi := gmem 0 hlj
   have hx := n2 _ hmi
   have hdc : l.drop j = l.getD j 0 :: l.drop (j + 1) := aZY hlj
   have hxin : l.getD j 0 ∈ (G.take (k + 1)).flatten := by rw [hts, List.flatten_append]; exact List.mem_append_right _ (by simpa using hmi)
   generalize l.getD j 0 = x at *
   have hlen : (rows (ccs g) n).length = n * 5 := aZ3 (aZp g) n
   have hq5 : ((rows (ccs g) n).drop (x * 5)).take 5 = coc (g x) := aZo (aZp g) hx
   have hl5 : x * 5 + 5 ≤ (rows (ccs g) n).length := by rw [hlen]; omega
   have w35 := wS j (by omega)
   have hdr : (ixP l).drop ((j + 1) * 1) = ixP (l.drop (j + 1)) := by unfold ixP; rw [List.map_drop, Nat.mul_one]
   have hj1 : j + 1 ≤ l.length := hlj
   obtain ⟨o, ho⟩ := lst_ex g (g x) (l.drop (j + 1)) S
   have C3 := tleast En g n (g x) (l.drop (j + 1)) S hS (by rw [List.length_drop]; omega) (fun i hi => n2 i (List.mem_of_mem_drop hi)) o ho
   unfold gP at C3
   rw [List.length_drop] at C3
   have hcg : ∀ s, fea g (l.drop (j + 1)) s ↔ fea f (l.drop (j + 1)) s := fun s => gZj fun i _ t => hw i t
   cases o with
   | none =>
    have hnf : ¬ fea f (l.drop j) S := by
     rw [hdc, fZ4]
     rintro ⟨t, ht, a, b⟩
     exact ho t ht ⟨by rw [hw]; exact a, (hcg _).2 b⟩
    have hrf : r = false := by
     rw [Bool.eq_false_iff]; intro h
     exact hnf (hef.1 (hfe.1 (he'.1 (hr.1 h)).1))
    subst hrf
    rw [show (none : Option Nat).isSome = false from rfl] at C3
    refine js (jr (jS (bLt jj jj) (jn (js (jt jj (jp (js (jb (js (jr (jm jj (jS (aZc jj jj hlj hqi) (jS (aZf jj jj) (ja jj (ja jj (jn (js (jr (jm jj (jm jj (jS (aZy jj jj hx (o' := x * 5) (by omega)) (jS (cZe jj jj hl5 hq5) (jm jj (jm jj (jm jj (jS (bAd jj jj w35) (jS (cZi jj jj hj1 hdr) (jm jj (jT (bZq (fun _ => 18) C3 ⟨jj, ⟨jj, Option.some_ne_none _⟩, jj, jj, trivial⟩ ⟨jj, trivial⟩ jj jj jj) (jm jj (jx' jj jj (jx' jj jj (ja jj (ja jj (jn (js (js (jr (jm jj (jS (bNo jj) (jn ?_)))))))))))))))))))))))))))))))))))))))))
    refine jt jj (js (jr (jS (aZl (ps := []) trivial jj) (jP jj jj jj jj (ja jj (jn (ji ?_)))))))
    exact ret2 rfl (.cell rfl rfl CRow.ok rfl) (.tmp rfl) (dZH _ _ _)
   | some v =>
    obtain ⟨v8, ⟨v1, v2⟩, _⟩ := ho
    have hff : fea f (l.drop (j + 1)) (S + (8 - v)) := (hcg _).1 v2
    have hfj : fea f (l.drop j) S := by rw [hdc, fZ4]; exact ⟨v, v8, by rw [← hw]; exact v1, hff⟩
    have hmod : fea f (l.drop (j + 1)) ((S + (8 - v)) % 8) := (bZV (by omega)).1 hff
    have hset := cZ2 (g := g) hx (v : Int)
    have hsl : x * 5 + 4 < (rows (ccs g) n).length := by rw [hlen]; omega
    have w64a : IntKind.i64.wrap ((S : Int) - (v : Int)) = (S : Int) - (v : Int) := w64 (by omega) (by omega)
    have w65 : IntKind.i64.wrap ((S : Int) - (v : Int) + 8) = ((S + (8 - v) : Nat) : Int) := by rw [w64 (by omega) (by omega)]; omega
    rw [show (some v : Option Nat).isSome = true from rfl, show (some v : Option Nat).getD 0 = v from rfl] at C3
    refine js (jr (jS (bLt jj jj) (jn (js (jt jj (jp (js (jb (js (jr (jm jj (jS (aZc jj jj hlj hqi) (jS (aZf jj jj) (ja jj (ja jj (jn (js (jr (jm jj (jm jj (jS (aZy jj jj hx (o' := x * 5) (by omega)) (jS (cZe jj jj hl5 hq5) (jm jj (jm jj (jm jj (jS (bAd jj jj w35) (jS (cZi jj jj hj1 hdr) (jm jj (jT (bZq (fun _ => 18) C3 ⟨jj, ⟨jj, Option.some_ne_none _⟩, jj, jj, trivial⟩ ⟨jj, trivial⟩ jj jj jj) (jm jj (jx' jj jj (jx' jj jj (ja jj (ja jj (jn (js (js (jr (jm jj (jS (bNo jj) (jn ?_)))))))))))))))))))))))))))))))))))))))))
    refine jf jj (jp (js (jr (jm jj (jm jj (jm jj (jS (aZy jj jj hx (o' := x * 5) (by omega)) (jF jj jj (jO (aZz jj jj jj hsl hset) (jn (jr (jm jj (jm jj (jS (bSu jj jj w64a) (jS (bAd jj jj w65) (jS (bRe jj jj (tm8 _)) (ja jj (jn (jr (jS (bAd jj jj w35) (jm jj (jn ?_))))))))))))))))))))))
    refine ⟨⟨(j + 1, fun i => if i = x then wy (g x) (v : Int) else g i, (S + (8 - v)) % 8), by dsimp only; omega, Nat.mod_lt _ (by decide), fun i t => ?_, fun i hi => ?_, hef.trans ⟨fun _ => hmod, fun _ => hfj⟩, .inr hmod⟩, ?_, by dsimp only; omega⟩
    ·dsimp only
     split
     ·rename_i e; subst e; exact hw i t
     ·exact hw i t
    ·dsimp only
     rw [if_neg (fun e => hi (by rw [e]; exact hxin))]
     exact hun i hi
    dsimp only
    refine Sub.mk ?_ ?_ <;> repeat (first | exact trivial | refine jV jj ?_ | refine jy jj ?_ | refine jw jj (js0 jj) ?_)
  ·have hjl : j = l.length := by omega
   have hfl : FE f l := hfe.2 (hef.2 (by
    rcases htr with h | h
    ·omega
    ·exact h))
   refine js (jr (jS (bLf jj jj) (jn (js (jf jj (je (jr (jS (bAd jj jj w1) (jm jj (jn ?_))))))))))
   refine ⟨⟨(k + 1, g), by dsimp only; omega, hw, hun, he'.trans ⟨fun h => h.2, fun h => ⟨hfl, h⟩⟩⟩, ?_, by dsimp only; omega⟩
   dsimp only
   refine Sub.mk ?_ ?_ <;> repeat (first | exact trivial | refine jV jj ?_ | refine jy jj ?_ | refine jw jj (js0 jj) ?_)
 ·have hrt : r = true := hr.2 (he.2 (by rw [List.drop_of_length_le (by omega)]; unfold FEs; simp))
  subst hrt
  refine js (jr (jS (bLf jj jj) (jn (js (jf jj (je ?_))))))
  refine WpD.sub (Sub.ownAny (t := 4) rfl) ?_
  repeat (first | apply js | apply jb)
  refine jr (jm jj (jS (aZl (ps := [(_, _), (_, _)]) ⟨jj, Part.c jj, jj, Part.c jj, trivial⟩ jj) (jP jj jj jj jj (ja jj (jn (ji ?_))))))
  exact ret2 rfl (.cell rfl rfl CRow.ok rfl) (.tmp rfl) (dZH _ _ _)
end
end Go.Proofs.YtdieokoenhncfaaGreatDoor
/- Groups of indices: the reference's compartments. (With LT.skipU.) -/
namespace Go.Proofs.YtdieokoenhncfaaGreatDoor
open Go.RowKit Limb Num
instance cbody79 : CBody Tryz.prog 79 := ⟨⟨_, Tryz.func79, rfl, by rfl⟩⟩
set_option maxHeartbeats 4000000 in
theorem hZo (En : Ev) (f : Nat → Co) (n : Nat) (H : Shp f n) : Fn Tryz.prog En 79 [slc 5 (rows (ccs f) n) n] (bZl (comp f n)) := by
 have hn := H.n20
 unfold comp
 obtain ⟨b, hb⟩ : ∃ b : Nat → Bool, b = fun i => (f i).o := ⟨_, rfl⟩
 obtain ⟨j, hj⟩ : ∃ j : Nat → Bool, j = fZr f := ⟨_, rfl⟩
 rw [← hb, ← hj]
 refine aZb Tryz.func79 rfl Tryz.ntmps79 rfl ?_
 intro w0 h0
 refine js (jr (ja jj (jn (js (jr (ja jj (jn (js (js (jr (jm jj (jE jj (jm jj (jn (jb ?_)))))))))))))))
 refine WpD.sub (τ := ⟨[(0, .one (slc 5 (rows (ccs f) n) n)), (3, .app 503 1 0), (6, .one (slc 5 (rows (ccs f) n) n)), (7, .one (ex (.int .i64 (n : Int)))), (8, .one (ex (.int .i64 ((0 : Nat) : Int))))], [(503, []), (753, []), (543, []), (793, [])]⟩) ?_ ?_
 ·refine Sub.mk ?_ ?_ <;> repeat (first | exact trivial | refine jV jj ?_ | refine jy jj ?_ | refine jw jj (js0 jj) ?_ | refine jz ?_ | refine jw jj ⟨js0 jj, js0 jj⟩ ?_ | refine jx jj ⟨js0 jj, js0 jj⟩ ?_)
 refine WpD.pin (t := 1) (b := 793) rfl (Option.some_ne_none _) fun xx0 => ?_
 refine WpD.pin (t := 2) (b := 543) rfl (Option.some_ne_none _) fun blk0 => ?_
 refine WpD.loop (α := {q : Nat × Nat × Nat × Nat // q.1 ≤ n ∧ (0 < (grps b j q.1).2.length → (grps b j q.1).2.length ≤ q.2.2.1 ∧ q.2.2.1 ≤ maxLen ∧ q.2.2.2 = q.2.2.1 * 1)}) (fun q => ⟨[(1, .pin 793 q.1.2.2.2), (2, .pin 543 q.1.2.1), (3, .app 503 1 (allG (grps b j q.1.1)).length), (0, .one (slc 5 (rows (ccs f) n) n)), (6, .one (slc 5 (rows (ccs f) n) n)), (7, .one (ex (.int .i64 (n : Int)))), (8, .one (ex (.int .i64 (q.1.1 : Int))))], [(503, gcs (grps b j q.1.1).1 (grps b j q.1.1).2 q.1.2.1 q.1.2.2.1), (753, []), (543, ixP (grps b j q.1.1).2), (793, [])]⟩) (fun q => n - q.1.1) ⟨(0, blk0, 0, xx0), Nat.zero_le _, fun h => absurd h (Nat.lt_irrefl 0)⟩ ?_ ?_
 ·dsimp only
  refine Sub.mk ?_ ?_ <;> repeat (first | exact trivial | refine jV jj ?_ | refine jy jj ?_ | refine jw jj (js0 jj) ?_ | refine jz ?_ | refine jw jj ⟨js0 jj, js0 jj⟩ ?_ | refine jx jj ⟨js0 jj, js0 jj⟩ ?_)
 rintro ⟨⟨i, blk, cap, xx⟩, hi, hcap⟩
 dsimp only at hi hcap ⊢
 by_cases hlt : i < n
 ·have w1 := wS i (by omega)
  have hq : ((rows (ccs f) n).drop (i * 5)).take 5 = [ex (.int .i64 (f i).e), ex (.int .i64 (f i).d), ex (.int .i64 (f i).s), ex (.bool (b i)), ex (.int .i64 (f i).y)] := by rw [hb]; exact aZo (aZp f) hlt
  cases hbi : b i with
  | false =>
   rw [hbi] at hq
   have e1 : grps b j (i + 1) = grps b j i := by rw [grps, if_pos hbi]
   refine js (jr (jS (bLt jj jj) (jn (js (jt jj (jp (js (jb (js (jr (jm jj (jS (aZc jj jj hlt hq) (jS (aZg jj jj jj) (jA jj jj jj (ja jj (jP jj jj jj jj (jn (js (js (jr (jF jj jj (jl jj jj jj (jS (bNo jj) (jn (jt jj (je (jr (jS (bAd jj jj w1) (jm jj (jn ?_))))))))))))))))))))))))))))))
   refine ⟨⟨(i + 1, blk, cap, xx), by dsimp only; omega, by dsimp only; rw [e1]; exact hcap⟩, ?_, by dsimp only; omega⟩
   dsimp only
   rw [e1]
   refine Sub.mk ?_ ?_ <;> repeat (first | exact trivial | refine jV jj ?_ | refine jy jj ?_ | refine jw jj (js0 jj) ?_ | refine jz ?_ | refine jw jj ⟨js0 jj, js0 jj⟩ ?_ | refine jx jj ⟨js0 jj, js0 jj⟩ ?_)
  | true =>
   rw [hbi] at hq
   obtain ⟨g1, g2⟩ := bZ2 b j i
   refine js (jr (jS (bLt jj jj) (jn (js (jt jj (jp (js (jb (js (jr (jm jj (jS (aZc jj jj hlt hq) (jS (aZg jj jj jj) (jA jj jj jj (ja jj (jP jj jj jj jj (jn (js (js (jr (jF jj jj (jl jj jj jj (jS (bNo jj) (jn (jf jj (jp ?_))))))))))))))))))))))))))
   refine WpD.cut (α := {v : Bool // v = (decide (0 < i) && b (i - 1) && j i)}) (fun v => ⟨[(1, .pin 793 xx), (2, .pin 543 blk), (3, .app 503 1 (allG (grps b j i)).length), (4, .one (ex (.int .i64 (i : Int)))), (0, .one (slc 5 (rows (ccs f) n) n)), (6, .one (slc 5 (rows (ccs f) n) n)), (7, .one (ex (.int .i64 (n : Int)))), (8, .one (ex (.int .i64 (i : Int)))), (37, .one (ex (.bool v.1)))], [(503, gcs (grps b j i).1 (grps b j i).2 blk cap), (753, []), (543, ixP (grps b j i).2), (793, [])]⟩) ?_ ?_
   ·by_cases hi0 : i = 0
    ·repeat (first | apply js | apply jb)
     refine jr (jm jj (jS (bGf jj jj (by omega)) (jm jj ?_)))
     first | refine jgm jj ?_ | refine jk ?_ | refine ju ?_
     first | refine jgm jj ?_ | refine jk ?_ | refine ju ?_
     first | refine jg (aZu jj jj (fun w => aZQ w _ _ _ _ _ _)) ?_ | refine jk ?_ | refine ju ?_
     first | refine jg (aZc jj jj (by first | assumption | omega) (by assumption)) ?_ | refine jk ?_ | refine ju ?_
     first | refine jg (aZh jj jj) ?_ | refine jk ?_ | refine ju ?_
     first | refine jg (aZf jj jj) ?_ | refine jk ?_ | refine ju ?_
     first | refine jq jj jj ?_ | refine jQ jj jj ?_
     refine jm jj ?_
     first | refine jgm jj ?_ | refine jk ?_ | refine ju ?_
     first | refine jgm jj ?_ | refine jk ?_ | refine ju ?_
     first | refine jg (aZu jj jj (fun w => aZQ w _ _ _ _ _ _)) ?_ | refine jk ?_ | refine ju ?_
     first | refine jg (aZc jj jj (by first | assumption | omega) (by assumption)) ?_ | refine jk ?_ | refine ju ?_
     first | refine jg (aZh jj jj) ?_ | refine jk ?_ | refine ju ?_
     first | refine jg (aZf jj jj) ?_ | refine jk ?_ | refine ju ?_
     first | refine jgf jj jj ?_ | refine jk ?_ | refine ju ?_
     first | refine jgl jj jj jj ?_ | refine jk ?_ | refine ju ?_
     first | refine jg (aZu jj jj (fun w => aZQ w _ _ _ _ _ _)) ?_ | refine jk ?_ | refine ju ?_
     first | refine jg (aZu jj jj (fun w => aZ4 w _ _ _ _ _ _)) ?_ | refine jk ?_ | refine ju ?_
     first | refine jq jj jj ?_ | refine jQ jj jj ?_
     refine jn ?_
     refine ⟨⟨false, by rw [decide_eq_false (show ¬ 0 < i by omega)]; rfl⟩, ?_⟩
     refine Sub.mk ?_ ?_ <;> repeat (first | exact trivial | refine jV jj ?_ | refine jy jj ?_ | refine jw jj (js0 jj) ?_ | refine jz ?_ | refine jw jj ⟨js0 jj, js0 jj⟩ ?_ | refine jx jj ⟨js0 jj, js0 jj⟩ ?_)
    ·have w2 : IntKind.i64.wrap ((i : Int) - 1) = ((i - 1 : Nat) : Int) := by rw [w64 (by omega) (by omega)]; omega
     have hl2 : i - 1 < n := by omega
     have hq2 : ((rows (ccs f) n).drop ((i - 1) * 5)).take 5 = [ex (.int .i64 (f (i - 1)).e), ex (.int .i64 (f (i - 1)).d), ex (.int .i64 (f (i - 1)).s), ex (.bool (b (i - 1))), ex (.int .i64 (f (i - 1)).y)] := by rw [hb]; exact aZo (aZp f) hl2
     have k1 := H.e0 _ hlt
     have k2 := H.e1 _ hlt
     have w5 : IntKind.i64.wrap ((f i).e - 1) = (f i).e - 1 := w64 (by omega) (by omega)
     have hh : ((f (i - 1)).e == (f i).e - 1) = j i := by
      rw [hj]
      unfold fZr
      show decide _ = decide _
      exact decide_eq_decide.2 (by omega)
     cases hb2 : b (i - 1) with
     | false =>
      rw [hb2] at hq2
      repeat (first | apply js | apply jb)
      refine jr (jm jj (jS (bGt jj jj (by omega)) (jm jj ?_)))
      first | refine jgm jj ?_ | refine jk ?_ | refine ju ?_
      first | refine jgm jj ?_ | refine jk ?_ | refine ju ?_
      first | refine jg (bSu jj jj w2) ?_ | refine jk ?_ | refine ju ?_
      first | refine jg (aZc jj jj hl2 hq2) ?_ | refine jk ?_ | refine ju ?_
      first | refine jg (aZh jj jj) ?_ | refine jk ?_ | refine ju ?_
      first | refine jg (aZf jj jj) ?_ | refine jk ?_ | refine ju ?_
      first | refine jq jj jj ?_ | refine jQ jj jj ?_
      refine jm jj ?_
      first | refine jgm jj ?_ | refine jk ?_ | refine ju ?_
      first | refine jgm jj ?_ | refine jk ?_ | refine ju ?_
      first | refine jg (aZu jj jj (fun w => aZQ w _ _ _ _ _ _)) ?_ | refine jk ?_ | refine ju ?_
      first | refine jg (aZc jj jj (by first | assumption | omega) (by assumption)) ?_ | refine jk ?_ | refine ju ?_
      first | refine jg (aZh jj jj) ?_ | refine jk ?_ | refine ju ?_
      first | refine jg (aZf jj jj) ?_ | refine jk ?_ | refine ju ?_
      first | refine jgf jj jj ?_ | refine jk ?_ | refine ju ?_
      first | refine jgl jj jj jj ?_ | refine jk ?_ | refine ju ?_
      first | refine jg (aZu jj jj (fun w => aZQ w _ _ _ _ _ _)) ?_ | refine jk ?_ | refine ju ?_
      first | refine jg (aZu jj jj (fun w => aZ4 w _ _ _ _ _ _)) ?_ | refine jk ?_ | refine ju ?_
      first | refine jq jj jj ?_ | refine jQ jj jj ?_
      refine jn ?_
      refine ⟨⟨false, by simp⟩, ?_⟩
      refine Sub.mk ?_ ?_ <;> repeat (first | exact trivial | refine jV jj ?_ | refine jy jj ?_ | refine jw jj (js0 jj) ?_ | refine jz ?_ | refine jw jj ⟨js0 jj, js0 jj⟩ ?_ | refine jx jj ⟨js0 jj, js0 jj⟩ ?_)
     | true =>
      rw [hb2] at hq2
      repeat (first | apply js | apply jb)
      refine jr (jm jj (jS (bGt jj jj (by omega)) (jm jj ?_)))
      first | refine jgm jj ?_ | refine jk ?_ | refine ju ?_
      first | refine jgm jj ?_ | refine jk ?_ | refine ju ?_
      first | refine jg (bSu jj jj w2) ?_ | refine jk ?_ | refine ju ?_
      first | refine jg (aZc jj jj hl2 hq2) ?_ | refine jk ?_ | refine ju ?_
      first | refine jg (aZh jj jj) ?_ | refine jk ?_ | refine ju ?_
      first | refine jg (aZf jj jj) ?_ | refine jk ?_ | refine ju ?_
      first | refine jq jj jj ?_ | refine jQ jj jj ?_
      refine jm jj ?_
      first | refine jgm jj ?_ | refine jk ?_ | refine ju ?_
      first | refine jgm jj ?_ | refine jk ?_ | refine ju ?_
      first | refine jg (bSu jj jj w2) ?_ | refine jk ?_ | refine ju ?_
      first | refine jg (aZc jj jj hl2 hq2) ?_ | refine jk ?_ | refine ju ?_
      first | refine jg (aZh jj jj) ?_ | refine jk ?_ | refine ju ?_
      first | refine jg (aZf jj jj) ?_ | refine jk ?_ | refine ju ?_
      first | refine jgf jj jj ?_ | refine jk ?_ | refine ju ?_
      first | refine jgl jj jj jj ?_ | refine jk ?_ | refine ju ?_
      first | refine jg (bSu jj jj w5) ?_ | refine jk ?_ | refine ju ?_
      first | refine jg (aZd jj jj (fun w => aZ4 w _ _ _ _ _ _) (aZm hh)) ?_ | refine jk ?_ | refine ju ?_
      first | refine jq jj jj ?_ | refine jQ jj jj ?_
      refine jn ?_
      refine ⟨⟨j i, by rw [decide_eq_true (show 0 < i by omega)]; simp⟩, ?_⟩
      refine Sub.mk ?_ ?_ <;> repeat (first | exact trivial | refine jV jj ?_ | refine jy jj ?_ | refine jw jj (js0 jj) ?_ | refine jz ?_ | refine jw jj ⟨js0 jj, js0 jj⟩ ?_ | refine jx jj ⟨js0 jj, js0 jj⟩ ?_)
   rintro ⟨v, hv⟩
   dsimp only
   cases v with
   | true =>
    have hv : 0 < i ∧ b (i - 1) = true ∧ j i = true := by simp at hv; exact ⟨hv.1.1, hv.1.2, hv.2⟩
    have hne : (grps b j i).2 ≠ [] := by have := gZM (b := b) (j := j) hv.2.1; rwa [show i - 1 + 1 = i by omega] at this
    have e1 : grps b j (i + 1) = ((grps b j i).1, (grps b j i).2 ++ [i]) := by rw [grps, if_neg (by rw [hbi]; decide), if_pos hv]
    generalize grps b j i = G at *
    obtain ⟨I, l⟩ := G
    cases l with
    | nil => exact absurd rfl hne
    | cons a t =>
    have hG : (allG (I, a :: t)).length = I.length + 1 := by unfold allG; simp
    rw [hG] at g1 ⊢
    dsimp only at g2 hcap e1 ⊢
    have g2 : t.length + 1 ≤ i := g2
    have w3 : IntKind.i64.wrap (((I.length + 1 : Nat) : Int) - 1) = ((I.length : Nat) : Int) := by rw [w64 (by omega) (by omega)]; omega
    have hget : (gcs I (a :: t) blk cap)[I.length]? = some (ex (gvl blk (a :: t).length cap)) := by
     unfold gcs
     rw [List.getElem?_append_right (by simp)]
     simp
    have hlen : (ixP (a :: t)).length = (a :: t).length * 1 := cZv _
    have hr : ixP (a :: t) ++ [ex (.int .i64 (i : Int))] = ixP ((a :: t) ++ [i]) := by unfold ixP; simp
    repeat (first | apply js | apply jb)
    refine WpD.condT rfl ?_
    repeat (first | apply js | apply jb)
    refine WpD.seqR ?_
    refine WpS.S rfl rfl (aZK rfl) rfl ?_
    refine WpS.S rfl rfl (aZK rfl) rfl ?_
    refine WpS.S rfl rfl (cZ1 rfl CSlice.ok) rfl ?_
    refine WpS.S rfl rfl (aZd rfl rfl (fun w => aZQ w _ _ _ _ _ _) (vint w3)) rfl ?_
    refine WpS.S rfl rfl (aZK rfl) rfl ?_
    refine WpS.S rfl rfl (aZK rfl) rfl ?_
    refine WpS.S rfl rfl (cZ1 rfl CSlice.ok) rfl ?_
    refine WpS.S rfl rfl (aZd rfl rfl (fun w => aZQ w _ _ _ _ _ _) (vint w3)) rfl ?_
    refine WpS.S rfl rfl (bZ5 rfl rfl (by omega) (Nat.mul_one I.length)) rfl ?_
    refine WpS.S rfl rfl (aZt rfl rfl hget) rfl ?_
    refine WpS.S rfl rfl (aZK rfl) rfl ?_
    refine WpS.S rfl rfl (aZE (ps := [(_, _)]) ⟨rfl, Part.c rfl, trivial⟩ rfl rfl rfl) rfl ?_
    refine WpS.sub (Sub.toApp (t := 47) (p := 2) (q := 1) (b := 543) (k := 1) (blk := blk) (len := (a :: t).length) (cap := cap) (x := xx) rfl rfl rfl hcap) ?_
    refine WpS.S rfl rfl (aZN 544 rfl rfl hlen rfl (by omega) (by simp; omega) rfl rfl rfl rfl rfl hr) rfl ?_
    refine WpS.sub (τ := ⟨[(0, .one (slc 5 (rows (ccs f) n) n)), (6, .one (slc 5 (rows (ccs f) n) n)), (7, .one (ex (.int .i64 (n : Int)))), (8, .one (ex (.int .i64 (i : Int)))), (3, .app 503 1 (I.length + 1)), (38, .app 503 1 (I.length + 1)), (41, .one (ex (.int .i64 ((I.length : Nat) : Int)))), (50, .app 543 1 ((a :: t).length + 1))], [(503, gcs I (a :: t) blk cap), (753, []), (543, ixP ((a :: t) ++ [i])), (793, [])]⟩) (Sub.ren 543 544 rfl ?_ ?_ rfl) ?_
    ·repeat (first | exact trivial | refine ⟨.inl ⟨⟨_, rfl, PLe.refl _⟩, trivial, trivial⟩, ?_⟩ | refine ⟨.inr ⟨_, _, rfl, .inl rfl, ⟨Option.some_ne_none _, Option.some_ne_none _⟩⟩, ?_⟩ | refine ⟨.inl ⟨⟨_, rfl, rfl⟩, Option.some_ne_none _, ⟨(by decide), (by decide)⟩⟩, ?_⟩ | refine ⟨.inl ⟨⟨_, rfl, rfl⟩, ⟨Option.some_ne_none _, Option.some_ne_none _⟩, ⟨(by decide), (by decide), (by decide), (by decide)⟩⟩, ?_⟩)
    ·repeat (first | exact trivial | refine ⟨.inr ⟨(by decide), .inr rfl⟩, ?_⟩ | refine ⟨.inl ⟨rfl, _, rfl, PsLe.refl _⟩, ?_⟩ | refine ⟨.inr ⟨(by decide), .inl ⟨(by decide), _, rfl, PsLe.refl _⟩⟩, ?_⟩)
    refine WpS.fromApp (t := 50) (p := 2) (q := 1) rfl rfl rfl (by simp) fun blk' cap' xx' hc' => ?_
    have hset : (gcs I (a :: t) blk cap).set I.length (ex (gvl blk' ((a :: t).length + 1) cap')) = gcs I ((a :: t) ++ [i]) blk' cap' := by
     unfold gcs
     rw [List.set_append_right _ _ (by simp)]
     simp
    refine WpS.S rfl rfl (bZ5 rfl rfl (by omega) (Nat.mul_one I.length)) rfl ?_
    refine WpS.N rfl (aZz rfl rfl rfl (by rw [gZO, hG]; omega) hset) rfl ?_
    refine WpS.nil ?_
    repeat (first | apply js | apply jb)
    refine jr (jS (bAd jj jj w1) (jm jj (jn ?_)))
    refine ⟨⟨(i + 1, blk', cap', xx'), by dsimp only; omega, by dsimp only; rw [e1]; exact fun _ => by simpa using hc'⟩, ?_, by dsimp only; omega⟩
    dsimp only
    rw [e1, show (allG (I, a :: t ++ [i])).length = I.length + 1 by unfold allG; simp]
    refine Sub.mk ?_ ?_ <;> repeat (first | exact trivial | refine jV jj ?_ | refine jy jj ?_ | refine jw jj (js0 jj) ?_ | refine jz ?_ | refine jw jj ⟨js0 jj, js0 jj⟩ ?_ | refine jx jj ⟨js0 jj, js0 jj⟩ ?_)
   | false =>
    have hv : ¬ (0 < i ∧ b (i - 1) = true ∧ j i = true) := by rintro ⟨h1, h2, h3⟩; rw [h2, h3, decide_eq_true h1] at hv; cases hv
    have e1 : grps b j (i + 1) = (allG (grps b j i), [i]) := by rw [grps, if_neg (by rw [hbi]; decide), if_neg hv]; rfl
    repeat (first | apply js | apply jb)
    refine WpD.condF rfl ?_
    refine WpD.sub (τ := ⟨[(3, .app 503 1 (allG (grps b j i)).length), (4, .one (ex (.int .i64 (i : Int)))), (0, .one (slc 5 (rows (ccs f) n) n)), (6, .one (slc 5 (rows (ccs f) n) n)), (7, .one (ex (.int .i64 (n : Int)))), (8, .one (ex (.int .i64 (i : Int))))], [(503, (allG (grps b j i)).map gP), (753, [])]⟩) ?_ ?_
    ·have hfst := bZ1 (b := b) (j := j) (i := i)
     generalize grps b j i = G at *
     obtain ⟨I, l⟩ := G
     cases l with
     | nil =>
      have hI : I = [] := hfst rfl
      subst hI
      refine Sub.mk ?_ ?_ <;> repeat (first | exact trivial | refine jV jj ?_ | refine jy jj ?_ | refine jw jj (js0 jj) ?_ | refine jz ?_ | refine jw jj ⟨js0 jj, js0 jj⟩ ?_ | refine jx jj ⟨js0 jj, js0 jj⟩ ?_)
     | cons a t =>
      have hA : allG (I, a :: t) = I ++ [a :: t] := by unfold allG; simp
      obtain ⟨q1, q2, _⟩ := hcap (by simp)
      have hm : (I ++ [a :: t]).map gP = I.map gP ++ [slc 1 (ixP (a :: t)) (a :: t).length] := by simp [gP]
      rw [hA, hm]
      refine Sub.pubLast (b := 543) (d := 503) (p := 2) (k := 1) (len := (a :: t).length) (cap := cap) (blk := blk) (L := I.map gP) (sl := [(3, .app 503 1 (I ++ [a :: t]).length), (4, .one (ex (.int .i64 (i : Int)))), (0, .one (slc 5 (rows (ccs f) n) n)), (6, .one (slc 5 (rows (ccs f) n) n)), (7, .one (ex (.int .i64 (n : Int)))), (8, .one (ex (.int .i64 (i : Int))))]) (bx0 := [(503, I.map gP ++ [ex (gvl blk (a :: t).length cap)]), (753, [])]) rfl rfl (cZv _) rfl rfl (by simp) q1 q2 ?_ rfl ?_ |>.trans ?_
      ·exact ⟨.inl ⟨_, rfl, PsLe.refl _⟩, .inl ⟨_, rfl, PsLe.refl _⟩, trivial⟩
      ·repeat (first | exact trivial | refine jv rfl ?_ | refine jw rfl (js0 rfl) ?_ | refine jw rfl ⟨js0 rfl, js0 rfl⟩ ?_)
      ·refine Sub.mk ?_ ?_ <;> repeat (first | exact trivial | refine jV jj ?_ | refine jy jj ?_ | refine jw jj (js0 jj) ?_ | refine jz ?_ | refine jw jj ⟨js0 jj, js0 jj⟩ ?_ | refine jx jj ⟨js0 jj, js0 jj⟩ ?_)
    generalize hA : allG (grps b j i) = A at *
    have hlen : (A.map gP).length = A.length * 1 := by simp
    repeat (first | apply js | apply jb)
    refine WpD.seqR ?_
    refine WpS.S rfl rfl (aZK rfl) rfl ?_
    refine WpS.S rfl rfl (aZK rfl) rfl ?_
    refine WpS.S rfl rfl (dZW 543 (ps := [(_, _)]) ⟨rfl, Part.c rfl, trivial⟩ rfl rfl rfl rfl rfl rfl) rfl ?_
    refine WpS.fromApp (t := 54) (p := 2) (q := 1) rfl rfl rfl (by omega) fun blk' cap' xx' hc' => ?_
    refine WpS.S rfl rfl (aZE (ps := [(_, _)]) ⟨rfl, Part.c rfl, trivial⟩ rfl rfl rfl) rfl ?_
    refine WpS.S rfl rfl (aZN 556 rfl rfl hlen rfl (by omega) (by omega) rfl rfl rfl rfl rfl rfl) rfl ?_
    refine WpS.S rfl rfl (dZc rfl) rfl ?_
    refine WpS.sub (τ := ⟨[(1, .pin 793 xx'), (2, .pin 543 blk'), (3, .app 503 1 (A.length + 1)), (0, .one (slc 5 (rows (ccs f) n) n)), (6, .one (slc 5 (rows (ccs f) n) n)), (7, .one (ex (.int .i64 (n : Int)))), (8, .one (ex (.int .i64 (i : Int))))], [(503, A.map gP ++ [ex (gvl blk' 1 cap')]), (753, []), (543, [ex (.int .i64 (i : Int))]), (793, [])]⟩) (Sub.ren 503 556 rfl ?_ ?_ rfl) ?_
    ·repeat (first | exact trivial | refine ⟨.inl ⟨⟨_, rfl, PLe.refl _⟩, trivial, trivial⟩, ?_⟩ | refine ⟨.inr ⟨_, _, rfl, .inl rfl, ⟨Option.some_ne_none _, Option.some_ne_none _⟩⟩, ?_⟩ | refine ⟨.inl ⟨⟨_, rfl, rfl⟩, Option.some_ne_none _, ⟨(by decide), (by decide)⟩⟩, ?_⟩ | refine ⟨.inl ⟨⟨_, rfl, rfl⟩, ⟨Option.some_ne_none _, Option.some_ne_none _⟩, ⟨(by decide), (by decide), (by decide), (by decide)⟩⟩, ?_⟩)
    ·repeat (first | exact trivial | refine ⟨.inr ⟨(by decide), .inr rfl⟩, ?_⟩ | refine ⟨.inl ⟨rfl, _, rfl, PsLe.refl _⟩, ?_⟩ | refine ⟨.inr ⟨(by decide), .inl ⟨(by decide), _, rfl, PsLe.refl _⟩⟩, ?_⟩)
    refine WpS.nil ?_
    repeat (first | apply js | apply jb)
    refine jr (jS (bAd jj jj w1) (jm jj (jn ?_)))
    refine ⟨⟨(i + 1, blk', cap', xx'), by dsimp only; omega, by dsimp only; rw [e1]; exact fun _ => by simpa using hc'⟩, ?_, by dsimp only; omega⟩
    dsimp only
    rw [e1, show (allG (A, [i])).length = A.length + 1 by unfold allG; simp]
    refine Sub.mk ?_ ?_ <;> repeat (first | exact trivial | refine jV jj ?_ | refine jy jj ?_ | refine jw jj (js0 jj) ?_ | refine jz ?_ | refine jw jj ⟨js0 jj, js0 jj⟩ ?_ | refine jx jj ⟨js0 jj, js0 jj⟩ ?_)
 ·have : i = n := by omega
  subst this
  have hfst := bZ1 (b := b) (j := j) (i := i)
  unfold bZl
  refine js (jr (jS (bLf jj jj) (jn (js (jf jj (je ?_))))))
  refine WpD.sub (τ := ⟨[(3, .one (slc 1 ((allG (grps b j i)).map gP) (allG (grps b j i)).length))], []⟩) ?_ ?_
  ·generalize grps b j i = G at *
   obtain ⟨I, l⟩ := G
   cases l with
   | nil =>
    have hI : I = [] := hfst rfl
    subst hI
    exact Sub.pub 503 rfl rfl ⟨.inr (.inr (.inl ⟨_, _, _, rfl, rfl, rfl, PLe.refl _⟩)), trivial⟩ trivial rfl
   | cons a t =>
    have hA : allG (I, a :: t) = I ++ [a :: t] := by unfold allG; simp
    obtain ⟨q1, q2, _⟩ := hcap (by simp)
    have hm : (I ++ [a :: t]).map gP = I.map gP ++ [slc 1 (ixP (a :: t)) (a :: t).length] := by simp [gP]
    have hl2 : (I.map gP ++ [slc 1 (ixP (a :: t)) (a :: t).length]).length = (I ++ [a :: t]).length * 1 := by simp
    rw [hA, hm]
    refine (Sub.pubLast (b := 543) (d := 503) (p := 2) (k := 1) (len := (a :: t).length) (cap := cap) (blk := blk) (L := I.map gP) (sl := [(3, .app 503 1 (I ++ [a :: t]).length)]) (bx0 := [(503, I.map gP ++ [ex (gvl blk (a :: t).length cap)]), (753, [])]) rfl rfl (cZv _) rfl rfl (by simp) q1 q2 ⟨.inl ⟨_, rfl, PsLe.refl _⟩, .inl ⟨_, rfl, PsLe.refl _⟩, trivial⟩ rfl ?_).trans ?_
    ·repeat (first | exact trivial | refine jv rfl ?_ | refine jw rfl (js0 rfl) ?_ | refine jw rfl ⟨js0 rfl, js0 rfl⟩ ?_)
    ·exact Sub.pub 503 rfl rfl ⟨.inr (.inr (.inl ⟨_, _, _, rfl, rfl, hl2, PLe.refl _⟩)), trivial⟩ trivial rfl
  repeat (first | apply js | apply jb)
  refine jr (jm jj (ja jj (jn (ji ?_))))
  exact rtT rfl jj
end Go.Proofs.YtdieokoenhncfaaGreatDoor

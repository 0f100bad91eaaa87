/- Matrices of the call's own: rows in a family, a box that names them. For any program. -/
import Derived.Test.YtfmjdlogjmofbaaGreatDoorK
import Derived.Test.YtfmjdlogjmofbaaGreatDoorW
set_option maxRecDepth 3000
namespace Go.Proofs.YtfmjdlogjmofbaaGreatDoor
section
open Go.RowKit Limb
def rowL (e : Nat → List Pd) : Nat → List Pd
 | 0 => []
 | m + 1 => rowL e m ++ e m
theorem bZj {e : Nat → List Pd} {k : Nat} : ∀ {m : Nat}, (∀ c, c < m → (e c).length = k) → (rowL e m).length = m * k
 | 0, _ => by simp [rowL]
 | m + 1, h => by rw [rowL, List.length_append, bZj fun c hc => h c oM, h m oM, Nat.succ_mul]
theorem aZG {e e' : Nat → List Pd} : ∀ {m : Nat}, (∀ c, c < m → e c = e' c) → rowL e m = rowL e' m
 | 0, _ => rfl
 | m + 1, h => by rw [rowL, rowL, aZG fun c hc => h c oM, h m oM]
theorem bZT {e : Nat → List Pd} {k : Nat} : ∀ {m c : Nat}, (∀ c, c < m → (e c).length = k) → c < m → ((rowL e m).drop (c * k)).take k = e c
 | 0, _, _, h => oM
 | m + 1, c, h, hc => by
  have hl := bZj (k := k) (fun c (hc : c < m) => h c oM)
  rw [rowL]
  by_cases e1 : c = m
  ·subst e1
   rw [List.drop_append_of_le_length oM, List.drop_of_length_le oM, List.nil_append, List.take_of_length_le (by rw [h c oM]; omega)]
  ·have h2 : c * k + k ≤ m * k := by rw [← Nat.succ_mul]; exact Nat.mul_le_mul_right _ oM
   rw [List.drop_append_of_le_length oM, List.take_append_of_le_length (by rw [List.length_drop]; omega)]
   exact bZT (fun c hc => h c oM) oM
theorem oZt {α : Type} : ∀ (us vs rest : List α) (o : Nat), o + us.length ≤ vs.length → putL (vs ++ rest) o us = putL vs o us ++ rest := fun us vs rest o h => dZH rest us vs o h
theorem jZ7 {α : Type} : ∀ (us vs ws : List α), us.length = ws.length → putL (vs ++ ws) vs.length us = vs ++ us
 | [], vs, ws, h => by
  have : ws = [] := List.length_eq_zero_iff.1 (by simpa using h.symm)
  subst this; rfl
 | u :: us, vs, [], h => by cases h
 | u :: us, vs, w :: ws, h => by
  simp only [putL]
  rw [show (vs ++ w :: ws).set vs.length u = (vs ++ [u]) ++ ws by simp]
  have := jZ7 us (vs ++ [u]) ws (by simpa using h)
  rw [List.length_append, List.length_singleton] at this
  rw [this]; simp
theorem gZ9 {e : Nat → List Pd} {k : Nat} {q : List Pd} (hq : q.length = k) : ∀ {m c : Nat}, (∀ c, c < m → (e c).length = k) → c < m → putL (rowL e m) (c * k) q = rowL (fun j => if j = c then q else e j) m
 | 0, _, _, h => oM
 | m + 1, c, h, hc => by
  have hl := bZj (k := k) (fun c (hc : c < m) => h c oM)
  rw [rowL, rowL]
  by_cases e1 : c = m
  ·subst e1
   rw [← hl, jZ7 q _ _ (by rw [hq, h c oM]), if_pos rfl]
   rw [aZG (m := c) (e' := fun j => if j = c then q else e j) fun j hj => by rw [if_neg oM]]
  ·have h2 : c * k + k ≤ m * k := by rw [← Nat.succ_mul]; exact Nat.mul_le_mul_right _ oM
   rw [oZt _ _ _ _ oM, gZ9 hq (fun c hc => h c oM) oM, if_neg (fun h => e1 h.symm)]
theorem bZ9 (zs : List Pd) : ∀ m, (List.replicate m zs).flatten = rowL (fun _ => zs) m
 | 0 => rfl
 | m + 1 => by rw [List.replicate_succ', List.flatten_append, bZ9 zs m]; simp [rowL]
def outL (g : Nat → Pd) (n : Nat) : List Pd := rowL (fun i => [g i]) n
theorem bZc (g : Nat → Pd) (n : Nat) : (outL g n).length = n := by
 have := bZj (e := fun i => [g i]) (k := 1) (m := n) (fun _ _ => rfl)
 rw [Nat.mul_one] at this; exact this
theorem gZG {g : Nat → Pd} {n i : Nat} (h : i < n) : (outL g n)[i]? = some (g i) := by
 have := bZT (e := fun i => [g i]) (k := 1) (m := n) (c := i) (fun _ _ => rfl) h
 rw [Nat.mul_one] at this
 have h2 : ((outL g n).drop i)[0]? = some (g i) := by
  have h3 := congrArg (fun l => l[0]?) this
  simp only [List.getElem?_take] at h3
  exact h3
 rw [List.getElem?_drop] at h2
 exact h2
theorem oZs {α : Type} (l : List α) (o : Nat) (x : α) : putL l o [x] = l.set o x := rfl
theorem dZz {g : Nat → Pd} {n i : Nat} {p : Pd} (h : i < n) : (outL g n).set i p = outL (fun j => if j = i then p else g j) n := by
 have := gZ9 (e := fun i => [g i]) (k := 1) (q := [p]) rfl (m := n) (c := i) (fun _ _ => rfl) h
 rw [Nat.mul_one, oZs] at this
 unfold outL
 rw [this]
 refine aZG fun c _ => ?_
 by_cases e : c = i
 ·simp only [if_pos e]
 ·simp only [if_neg e]
theorem aZu {g g' : Nat → Pd} {n : Nat} (h : ∀ i, i < n → g i = g' i) : outL g n = outL g' n := aZG fun i hi => by rw [h i hi]
theorem cZh {g : Nat → Pd} : ∀ {n : Nat} {p : Pd}, p ∈ outL g n → ∃ i, i < n ∧ p = g i
 | 0, p, h => by cases h
 | n + 1, p, h => by
  rw [outL, rowL, List.mem_append] at h
  rcases h with h | h
  ·obtain ⟨i, h1, h2⟩ := cZh (g := g) (n := n) h
   exact ⟨i, oM, h2⟩
  ·exact ⟨n, oM, by simpa using h⟩
theorem PsMv.append {ρ : Nat → Nat} {s t : Bx} : ∀ {a b c d : List Pd}, PsMv ρ s t a b → PsMv ρ s t c d → PsMv ρ s t (a ++ c) (b ++ d)
 | [], [], _, _, _, h => h
 | _ :: _, _ :: _, _, _, ⟨x, y⟩, h => ⟨x, PsMv.append y h⟩
 | [], _ :: _, _, _, h, _ => h.elim
 | _ :: _, [], _, _, h, _ => h.elim
theorem PsMv.out {ρ : Nat → Nat} {s t : Bx} {f g : Nat → Pd} : ∀ {n : Nat}, (∀ i, i < n → PMv ρ s t (f i) (g i)) → PsMv ρ s t (outL f n) (outL g n)
 | 0, _ => trivial
 | n + 1, h => (PsMv.out fun i hi => h i oM).append ⟨h n oM, trivial⟩
theorem PsFl.append : ∀ {a b c d : List Pd}, PsFl a b → PsFl c d → PsFl (a ++ c) (b ++ d)
 | [], [], _, _, _, h => h
 | _ :: _, _ :: _, _, _, ⟨x, y⟩, h => ⟨x, PsFl.append y h⟩
 | [], _ :: _, _, _, h, _ => h.elim
 | _ :: _, [], _, _, h, _ => h.elim
theorem PsFl.out {f g : Nat → Pd} : ∀ {n : Nat}, (∀ i, i < n → PLe (f i) (g i) ∧ Flat (g i)) → PsFl (outL f n) (outL g n)
 | 0, _ => trivial
 | n + 1, h => (PsFl.out fun i hi => h i oM).append ⟨h n oM, trivial⟩
theorem PMv.own {ρ : Nat → Nat} {s t : Bx} {r' r o len cap : Nat} (h : ρ r = r') (hl : look t r ≠ none) (hg : ¬ grows r) (hg' : ¬ grows r') : PMv ρ s t (ownP r' o len cap) (ownP r o len cap) := by
 subst h
 rintro hh β v' ⟨c, rfl, h1, h2⟩ _ _
 exact ⟨.slice (some ⟨r, o, none⟩) len c, ⟨c, rfl, h1, h2⟩, rfl, by rw [bZp hg', bZp hg], fun r' o' l c' e => by cases e; exact ⟨hl, fun h => absurd h hg⟩⟩
theorem PMv.app {ρ : Nat → Nat} {s t : Bx} {r' r k len : Nat} (h : ρ r = r') (h2 : ρ (r + 250) = r' + 250) (hl : look t r ≠ none) (hl2 : look t (r + 250) ≠ none) (hg : grows r := by unfold grows; omega) (hg' : grows r' := by unfold grows; omega) : PMv ρ s t (appP r' k len) (appP r k len) := by
 intro h0 β v' hv _ hr
 have hv : v' = codA r' k len := hv
 subst hv
 refine ⟨codA r k len, rfl, by cases len <;> rfl, ?_, ?_⟩
 ·cases len with
  | zero => rw [bZM (by intro r o l c e; cases e)]; exact (bZM (by intro r o l c e; cases e)).symm
  | succ len => show tr β (.slice _ _ _) = tr _ (.slice _ _ _); rw [eZm hg', eZm hg]; simp only [h, h2]
 ·intro r1 o l c e
  cases len with
  | zero => cases e
  | succ len =>
   cases e
   obtain ⟨_, g⟩ := hr _ _ _ _ rfl
   obtain ⟨_, g2⟩ := g hg'
   refine ⟨hl, fun _ => ⟨hl2, ?_⟩⟩
   simp only [h2]
   exact g2
theorem PMv.fix {ρ : Nat → Nat} {s t : Bx} {r' r k len : Nat} (h : ρ r = r') (hlen : 0 < len) (hl : look t r ≠ none) (hg : ¬ grows r) (hg' : grows r' := by unfold grows; omega) : PMv ρ s t (appP r' k len) (ownP r 0 len len) := by
 intro h0 β v' hv _ hr
 have hv : v' = codA r' k len := hv
 subst hv
 cases len with
 | zero => omega
 | succ len =>
  obtain ⟨_, g⟩ := hr _ _ _ _ rfl
  obtain ⟨_, g2, g3, g4, g5, g6⟩ := g hg'
  refine ⟨.slice (some ⟨r, 0, none⟩) (len + 1) (β (r' + 250) / k), ⟨_, rfl, g4, g5⟩, rfl, ?_, fun r1 o l c e => by cases e; exact ⟨hl, fun h => absurd h hg⟩⟩
  show tr β (.slice _ _ _) = tr _ (.slice _ _ _)
  rw [eZm hg', bZp hg]
  simp only [h]
theorem PMv.flat {ρ : Nat → Nat} {s t : Bx} {p' p : Pd} [hf : Flat p] (h : PLe p' p) : PMv ρ s t p' p := fun h0 β v' hv h1 _ => by
 have := hf.flat h0 v' (h _ _ hv)
 exact ⟨v', h _ _ hv, h1, by rw [bZM this, bZM this], fun r o l c e => absurd e (this r o l c)⟩
theorem bZU {t : Bx} {r o len cap : Nat} (h : look t r ≠ none) (hg : ¬ grows r) : nref t (ownP r o len cap) := fun _ v r' o' l c ⟨_, e, _⟩ e' => by
 rw [e] at e'; cases e'; exact ⟨h, fun h => absurd h hg⟩
theorem jZG {t : Bx} {r k len : Nat} (h : look t r ≠ none) (h2 : look t (r + 250) ≠ none) : nref t (appP r k len) := fun _ v r' o' l c e e' => by
 have e : v = codA r k len := e
 subst e
 cases len with
 | zero => cases e'
 | succ len => cases e'; exact ⟨h, fun _ => h2⟩
theorem bZH {t : Bx} {p : Pd} [hf : Flat p] : nref t p := fun h v r o l c hp e => absurd e (hf.flat h v hp r o l c)
def lkAll (full : Bx) : Bx → Prop
 | [] => True
 | (i, ps) :: l => (lk i = false ∨ ∀ p ∈ ps, nref full p) ∧ lkAll full l
theorem hZM {full : Bx} : ∀ {l : Bx}, lkAll full l → ∀ i ps, lk i = true → look l i = some ps → ∀ p ∈ ps, nref full p
 | [], _, _, _, _, h => by cases h
 | (k, x) :: l, ⟨h1, h2⟩, i, ps, hl, h => by
  rw [aZc] at h
  split at h
  ·rename_i e
   subst e
   cases h
   rcases h1 with h1 | h1
   ·rw [hl] at h1; cases h1
   ·exact h1
  ·exact hZM h2 i ps hl h
theorem LKeep.all {s t : Bx} (h : lkAll t t) : LKeep s t := fun i ps hl hp => .inr (hZM h i ps hl hp)
def mbx (b d : Nat) (π : Nat → Nat) (n m : Nat) (g : Nat → List Pd) : Bx := (b, outL (fun i => ownP (d + π i) 0 m m) n) :: rws d g
theorem aZp {t : Bx} {d n m : Nat} {π : Nat → Nat} (hl : ∀ j, j < 8 → look t (d + j) ≠ none) (hd : d + 8 ≤ 400 ∨ 1000 ≤ d) (hπ : ∀ i, i < n → π i < 8) : ∀ p ∈ outL (fun i => ownP (d + π i) 0 m m) n, nref t p := fun p hp => by
 obtain ⟨i, hi, rfl⟩ := cZh hp
 exact bZU (hl _ (hπ i hi)) (by unfold grows; have := hπ i hi; omega)
theorem Fam.live {bx : Bx} {d : Nat} {f : Nat → List Pd} (h : Fam bx d f) : ∀ j, j < 8 → look bx (d + j) ≠ none := fun j hj => by rw [h j hj]; simp
def tupX (b n : Nat) : BP := ⟨[b], fun _ β v => ∃ c, v = .tuple #[.slice (some ⟨β b, 0, none⟩) n c, .bool true] ∧ n ≤ c ∧ c ≤ maxLen, fun h h' β β' v _ hb ⟨c, e, h1⟩ => ⟨c, by rw [hb b (by simp)]; exact e, h1⟩⟩
def cmt (k m : Nat) (F : Nat → Nat → List Pd) (n : Nat) : Pd := slc 1 (outL (fun i => slc k (rowL (F i) m) m) n) n
section
variable {En : Ev} {w0 : World} {h0 : GH} {c : Cx} {h : GH} {β : Nat → Nat} {bx : Bx} {w : World}
theorem Inv.pubRows (hi : Inv En w0 h0 c h β bx w) {d : Nat} {g : Nat → List Pd} (hf : Fam bx d g) (hd : d + 8 ≤ 400) : ∀ t, t ≤ 8 → ∃ h', Inv En w0 h0 c h' β ((List.range t).map (fun j => (d + j, ([] : List Pd))) ++ bx) w ∧ Le h h' ∧ ∀ j, j < t → ∃ vs, All2 h' (g j) vs ∧ ∀ o u, vs[o]? = some u → h' (β (d + j)) o = some u
 | 0, _ => ⟨h, by simpa using hi, Le.refl _, fun j hj => oM⟩
 | t + 1, ht => by
  obtain ⟨h1, i1, l1, k1⟩ := hi.pubRows hf hd t oM
  have hlk : ∀ t i, look ((List.range t).map (fun j => (d + j, ([] : List Pd))) ++ bx) i = if d ≤ i ∧ i < d + t then some [] else look bx i := by
   intro t i
   induction t with
   | zero => rw [if_neg oM]; rfl
   | succ t ih =>
    rw [List.range_succ, List.map_append, List.append_assoc, aZ0] at *
    cases hx : look ((List.range t).map fun j => (d + j, ([] : List Pd))) i with
    | some ps =>
     rw [hx] at ih
     simp only [Option.some_or] at ih ⊢
     by_cases hc : d ≤ i ∧ i < d + t
     ·rw [if_pos hc] at ih; rw [if_pos oM]; exact ih
     ·rw [if_neg hc] at ih
      have := cZk hx
      obtain ⟨j, hj, e⟩ := List.mem_map.1 this
      cases e
      rw [if_pos (by have := List.mem_range.1 hj; omega)]
    | none =>
     rw [hx] at ih
     simp only [Option.none_or] at ih ⊢
     rw [List.map_cons, List.map_nil, List.singleton_append, aZc]
     by_cases e : d + t = i
     ·rw [if_pos e, if_pos oM]
     ·rw [if_neg e, ih]
      by_cases hc : d ≤ i ∧ i < d + t
      ·rw [if_pos hc, if_pos oM]
      ·rw [if_neg hc, if_neg oM]
  have hb : look ((List.range t).map (fun j => (d + j, ([] : List Pd))) ++ bx) (d + t) = some (g t) := by rw [hlk, if_neg oM]; exact hf t oM
  have hlow : lk (d + t) = false := bZL oM
  obtain ⟨h2, vs, i2, l2, a2, _, c2⟩ := i1.pubG (bx' := (List.range (t + 1)).map (fun j => (d + j, ([] : List Pd))) ++ bx) (d + t) oM hb (fun i qs hq => by
   rw [hlk] at hq ⊢
   by_cases hc : d ≤ i ∧ i < d + (t + 1)
   ·rw [if_pos hc] at hq; cases hq; exact .inr rfl
   ·rw [if_neg hc] at hq; rw [if_neg oM]; exact .inl ⟨qs, hq, PsLe.refl _⟩) (fun qs hq => by
   rw [hlk, if_pos oM] at hq; cases hq; rfl) (fun i ps _ _ => .inl fun r hr => by
   rw [hlk] at hr ⊢
   by_cases hc : d ≤ r ∧ r < d + (t + 1)
   ·rw [if_pos hc]; simp
   ·rw [if_neg oM] at hr; rw [if_neg hc]; exact hr)
  rw [bZ3 hlow] at c2
  refine ⟨h2, i2, l1.trans l2, fun j hj => ?_⟩
  by_cases e : j = t
  ·subst e; exact ⟨vs, a2, c2⟩
  ·obtain ⟨us, u1, u2⟩ := k1 j oM
   exact ⟨us, u1.mono l2, fun o u hu => l2 _ _ _ (u2 o u hu)⟩
theorem All2.mapO {h : GH} {t : Value → Value} {f g : Nat → Pd} : ∀ {n : Nat} {vs : List Value}, (∀ i v, i < n → (f i).p h v → v.oneCell' = true → (g i).p h (t v) ∧ (t v).oneCell' = true) → All2 h (outL f n) vs → All2 h (outL g n) (vs.map t)
 | 0, [], _, _ => trivial
 | 0, _ :: _, _, h => h.elim
 | n + 1, vs, H, ha => by
  have hl := ha.length
  rw [outL, rowL] at ha
  have hlen : (rowL (fun i => [f i]) n).length = n := bZc f n
  have e : vs = vs.take n ++ vs.drop n := (List.take_append_drop n vs).symm
  have h1 : All2 h (outL f n) (vs.take n) := by have := ha.take n; rwa [List.take_append_of_le_length oM, List.take_of_length_le oM] at this
  have h2 : All2 h [f n] (vs.drop n) := by have := ha.drop n; rwa [List.drop_append_of_le_length oM, List.drop_of_length_le oM, List.nil_append] at this
  rw [e, List.map_append, outL, rowL]
  refine (All2.mapO (fun i v hi => H i v oM) h1).append ?_
  cases hv : vs.drop n with
  | nil => rw [hv] at h2; exact h2.elim
  | cons v l =>
   rw [hv] at h2
   cases l with
   | nil =>
    obtain ⟨a, b⟩ := H n v oM h2.1 h2.2.1
    exact ⟨a, b, trivial⟩
   | cons => exact h2.2.2.elim
theorem Inv.pubX (hi : Inv En w0 h0 c h β bx w) {b d n m k : Nat} {π : Nat → Nat} {g : Nat → List Pd} {F : Nat → Nat → List Pd} (hb : look bx b = some (outL (fun i => ownP (d + π i) 0 m m) n)) (hlb : lk b = true) (hb0 : b < 1000) (hf : Fam bx d g) (hd : d + 8 ≤ 400) (hπ : ∀ i, i < n → π i < 8)
  (hg : ∀ i, i < n → g (π i) = rowL (F i) m) (hk : ∀ i c, i < n → c < m → (F i c).length = k) {bx2 : Bx} (h2 : subBx bx bx2) (h3 : ∀ qs, look bx2 b = some qs → qs = []) (h4 : ∀ j qs, j < 8 → look bx2 (d + j) = some qs → qs = []) (hke : LKeep bx bx2) :
  ∃ h', Inv En w0 h0 c h' β bx2 w ∧ Le h h' ∧ ∀ cap, n ≤ cap → cap ≤ maxLen → (cmt k m F n).p h' (.slice (some ⟨β b, 0, none⟩) n cap) := by
 obtain ⟨h1, i1, l1, k1⟩ := hi.pubRows hf hd 8 oM
 have hbd : ¬ (d ≤ b ∧ b < d + 8) := by rintro ⟨q1, q2⟩; rw [bZL oM] at hlb; cases hlb
 have hlk : ∀ i, look ((List.range 8).map (fun j => (d + j, ([] : List Pd))) ++ bx) i = if d ≤ i ∧ i < d + 8 then some [] else look bx i := fun i => bZV (d := d) (f := fun _ => []) i
 obtain ⟨h2', vs, i2, l2, a2, _, c2⟩ := i1.pubG (bx' := bx2) b hb0 (by rw [hlk, if_neg hbd]; exact hb) (fun i qs hq => by
   rw [hlk]
   by_cases hc : d ≤ i ∧ i < d + 8
   ·rw [if_pos hc]
    refine .inr (h4 (i - d) qs oM ?_)
    rw [show d + (i - d) = i by omega]; exact hq
   ·rw [if_neg hc]; exact cZD h2 hq) h3 (fun i ps hl hp => by
   rcases hke i ps hl hp with k | k
   ·refine .inl fun r hr => k r ?_
    rw [hlk] at hr
    by_cases hc : d ≤ r ∧ r < d + 8
    ·have := hf.live (r - d) oM
     rwa [show d + (r - d) = r by omega] at this
    ·rwa [if_neg hc] at hr
   ·exact .inr k)
 have etI : tI b β vs = vs.map (tr β) := by unfold tI; rw [hlb]; rfl
 rw [etI] at c2
 refine ⟨h2', i2, l1.trans l2, fun cap hc1 hc2 => ⟨some ⟨β b, 0, none⟩, cap, rfl, hc1, hc2, (fun h => by cases h), by rw [bZc, Nat.mul_one], fun _ => ⟨β b, 0, vs.map (tr β), rfl, ?_, fun j u hu => by rw [Nat.zero_add]; exact c2 j u hu⟩⟩⟩
 refine All2.mapO (t := tr β) (fun i v hin hv h1c => ⟨?_, fZQ h1c⟩) a2
 obtain ⟨cc, rfl, q1, q2⟩ := hv
 rw [bZp (by unfold grows; have := hπ i hin; omega)]
 obtain ⟨us, u1, u2⟩ := k1 (π i) (hπ i hin)
 rw [hg i hin] at u1
 exact ⟨some ⟨β (d + π i), 0, none⟩, cc, rfl, q1, q2, (fun h => by cases h), bZj (hk i · hin), fun _ => ⟨β (d + π i), 0, us, rfl, u1.mono l2, fun j u hu => by rw [Nat.zero_add]; exact l2 _ _ _ (u2 j u hu)⟩⟩
end
def pubXS (s : Sl) (bx : Bx) (b n : Nat) (p : Pd) : Sl → Prop
 | [] => True
 | (t, sd) :: l => (((∃ sd', look s t = some sd' ∧ SLe sd' sd) ∧ sd.live bx) ∨ (look s t = some (.own b 0 n n) ∧ sd = .one p)) ∧ pubXS s bx b n p l
theorem hZ5 {s : Sl} {bx : Bx} {b n : Nat} {p : Pd} : ∀ {l : Sl}, pubXS s bx b n p l → ∀ {t : Nat} {sd : SD}, look l t = some sd → (((∃ sd', look s t = some sd' ∧ SLe sd' sd) ∧ sd.live bx) ∨ (look s t = some (.own b 0 n n) ∧ sd = .one p))
 | [], _, _, _, h => by cases h
 | (k, x) :: l, ⟨h1, h3⟩, t, sd, h => by
  rw [aZc] at h
  split at h
  ·rename_i e; subst e; cases h; exact h1
  ·exact hZ5 h3 h
theorem Sub.pubX {σ τ : St} (b d : Nat) {n m k : Nat} {π : Nat → Nat} {g : Nat → List Pd} (F : Nat → Nat → List Pd) (hb : look σ.bx b = some (outL (fun i => ownP (d + π i) 0 m m) n)) (hf : Fam σ.bx d g) (hd : (lk b && Nat.blt b 1000 && Nat.ble (d + 8) 400) = true) (hπ : ∀ i, i < n → π i < 8)
  (hg : ∀ i, i < n → g (π i) = rowL (F i) m) (hk : ∀ i c, i < n → c < m → (F i c).length = k) (h1 : pubXS σ.sl τ.bx b n (cmt k m F n) τ.sl) (h2 : subBx σ.bx τ.bx) (h3 : look τ.bx b = none) (h4 : (ids d).all (fun i => (look τ.bx i).isNone) = true := by rfl) (hke : LKeep σ.bx τ.bx := by exact eZg rfl) : Sub σ τ := by
 rintro En nn w0 h0 c a w ⟨h, β, hi, hs⟩
 rw [Bool.and_eq_true, Bool.and_eq_true] at hd
 obtain ⟨⟨hd1, hd2⟩, hd3⟩ := hd
 have hd2 : b < 1000 := Nat.le_of_ble_eq_true hd2
 obtain ⟨h', i', l', k'⟩ := hi.pubX (F := F) (k := k) hb hd1 hd2 hf (Nat.le_of_ble_eq_true hd3) hπ hg hk h2 (fun qs hq => by rw [h3] at hq; cases hq) (fun j qs hj hq => by
  have := List.all_eq_true.1 h4 _ (bZ4 hj)
  rw [hq] at this; cases this) hke
 refine ⟨h', β, i', hs.defers, hs.size, fun t sd ht => ?_⟩
 rcases hZ5 h1 ht with ⟨⟨sd', g1, g2⟩, g3⟩ | ⟨g1, rfl⟩
 ·obtain ⟨v, r1, r2, _⟩ := hs.slot t sd' g1
  exact ⟨v, r1, SD.ok_mono (g2.ok r2) g3 l' (fun _ _ => rfl), g3⟩
 ·obtain ⟨v, r1, ⟨cap, r2, r3, r4⟩, _⟩ := hs.slot t _ g1
  exact ⟨v, r1, by rw [r2]; exact k' cap r3 r4, trivial⟩
end
section
open Go.RowKit Limb
theorem eZf {b d n m : Nat} {π : Nat → Nat} {g : Nat → List Pd} {bx : Bx} (i : Nat) : look (mbx b d π n m g ++ bx) i = if i = b then some (outL (fun i => ownP (d + π i) 0 m m) n) else if d ≤ i ∧ i < d + 8 then some (g (i - d)) else look bx i := by
 show look ((b, _) :: (rws d g ++ bx)) i = _
 rw [aZc, bZV]
 by_cases e : b = i
 ·rw [if_pos e, if_pos e.symm]
 ·rw [if_neg e, if_neg (show ¬ i = b from fun h => e h.symm)]
theorem dZr {b d n m : Nat} {π : Nat → Nat} {g : Nat → List Pd} (i : Nat) : look (mbx b d π n m g) i = if i = b then some (outL (fun i => ownP (d + π i) 0 m m) n) else if d ≤ i ∧ i < d + 8 then some (g (i - d)) else none := by
 have := eZf (b := b) (d := d) (n := n) (m := m) (π := π) (g := g) (bx := []) i
 rw [List.append_nil] at this
 exact this
theorem hZe {h : GH} {β : Nat → Nat} : ∀ {az : List Pd} {vs : List Value}, AllV h az vs → AllS h β [] (az.map .one) vs
 | [], [], _ => trivial
 | _ :: _, _ :: _, ⟨a, b⟩ => ⟨a, trivial, hZe b⟩
 | [], _ :: _, h => h.elim
 | _ :: _, [], h => h.elim
section
variable {P : Program} {En : Ev}
theorem call_X {w0 : World} {h0 : GH} {c : Cx} {h : GH} {β : Nat → Nat} {bx : Bx} {w : World} (hi : Inv En w0 h0 c h β bx w) {f : FuncId} {az : List Pd} {vs : List Value} {r : SD} {b d n m : Nat} {π : Nat → Nat} {g : Nat → List Pd} (hf : FnG P En f (az.map .one) [] r (mbx 400 200 π n m g)) (ha : AllV h az vs) (hπ : ∀ i, i < n → π i < 8) (hnb : look bx b = none) (hnd : ∀ j, j < 8 → look bx (d + j) = none) (hlb : lk b = true) (hb : 400 ≤ b ∧ b < 500) (hd : d + 8 ≤ 400) :
  Calls P f vs.toArray w (fun e w' => ∃ v h' β', e = .returned v ∧ Inv En w0 h0 c h' β' (mbx b d π n m g ++ bx) w' ∧ Le h h' ∧ (∀ i, look bx i ≠ none → β' i = β i) ∧ ∃ βc, r.ok h' βc v ∧ βc 400 = β' b) := by
 refine Calls.mono (hf h β w _ hi.envNow hi.holds ⟨fun i qs hq => (by cases hq), fun i j ps qs hi' => (by cases hi')⟩ (fun i ps hi' => (by cases hi')) (hZe ha)) ?_
 rintro e w' ⟨v, h', β', rfl, g1, g2, g3, g4, g5, g6, g8, g7, _⟩
 have hbel : Below w.heap.size w w' := ⟨g4.os, g4.tape, g4.output, g4.size, fun k hk => g4.block k hk (by rintro ⟨i, ⟨ps, hi', _⟩, _⟩; cases hi')⟩
 have hI := hi.call g1 g2 g3 hbel
 have L0 : ∀ i, look (mbx 400 200 π n m g) i = _ := fun i => dZr (b := 400) (d := 200) (n := n) (m := m) (π := π) (g := g) i
 have L : ∀ i, look (mbx b d π n m g ++ bx) i = _ := fun i => eZf (b := b) (d := d) (n := n) (m := m) (π := π) (g := g) (bx := bx) i
 let ρ : Nat → Nat := fun i => if i = b then 400 else 200 + (i - d)
 let γ : Nat → Nat := fun i => if i = b then β' 400 else if d ≤ i ∧ i < d + 8 then β' (200 + (i - d)) else β i
 have gb : γ b = β' 400 := if_pos rfl
 have gd : ∀ j, j < 8 → γ (d + j) = β' (200 + j) := fun j hj => by
  show (if _ then _ else if _ then _ else _) = _
  rw [if_neg oM, if_pos oM, Nat.add_sub_cancel_left]
 have go : ∀ i, look bx i ≠ none → γ i = β i := fun i hi' => by
  show (if _ then _ else if _ then _ else _) = _
  rw [if_neg (by rintro rfl; exact hi' hnb), if_neg]
  rintro ⟨q1, q2⟩
  have := hnd (i - d) oM
  rw [show d + (i - d) = i by omega] at this
  exact hi' this
 have live : ∀ i, look bx i ≠ none → look (mbx b d π n m g ++ bx) i ≠ none ∧ γ i = β i := fun i hi' => by
  refine ⟨?_, go i hi'⟩
  rw [L]
  split
  ·simp
  ·split
   ·simp
   ·exact hi'
 have src : ∀ i ps, look (mbx b d π n m g ++ bx) i = some ps → ps ≠ [] → (i = b ∧ ps = outL (fun i => ownP (d + π i) 0 m m) n) ∨ (∃ j, j < 8 ∧ i = d + j ∧ ps = g j) ∨ (look bx i = some ps ∧ i ≠ b ∧ ¬ (d ≤ i ∧ i < d + 8)) := fun i ps hp hps => by
  rw [L] at hp
  by_cases e : i = b
  ·rw [if_pos e] at hp; cases hp; exact .inl ⟨e, rfl⟩
  ·rw [if_neg e] at hp
   by_cases e2 : d ≤ i ∧ i < d + 8
   ·rw [if_pos e2] at hp; cases hp; exact .inr (.inl ⟨i - d, oM, oM, rfl⟩)
   ·rw [if_neg e2] at hp; exact .inr (.inr ⟨hp, e, e2⟩)
 have cal : ∀ i ps, look (mbx 400 200 π n m g) i = some ps → ps ≠ [] → w.heap.size ≤ β' i := fun i ps hp hps => (g8 i ps hp hps).1 (by
  rw [L0] at hp
  split at hp
  ·omega
  ·split at hp
   ·omega
   ·cases hp)
 have c400 : look (mbx 400 200 π n m g) 400 = some (outL (fun i => ownP (200 + π i) 0 m m) n) := by rw [L0, if_pos rfl]
 have crow : ∀ j, j < 8 → look (mbx 400 200 π n m g) (200 + j) = some (g j) := fun j hj => by rw [L0, if_neg oM, if_pos oM, Nat.add_sub_cancel_left]
 have outne : outL (fun i => ownP (d + π i) 0 m m) n ≠ [] → outL (fun i => ownP (200 + π i) 0 m m) n ≠ [] := fun hh hq => hh (List.length_eq_zero_iff.1 (by rw [bZc]; have := congrArg List.length hq; rw [bZc] at this; simpa using this))
 have hlt : ∀ j ps, look bx j = some ps → ps ≠ [] → β j < w.heap.size := fun j ps hj hp => by
  obtain ⟨_, _, us, rs, T', h3, _⟩ := hi.box j ps hj hp
  exact aZM h3
 refine ⟨v, h', γ, rfl, ⟨hI.env, hI.holds, hI.le0, hI.fresh, hI.below, hI.dis, fun j hj => ?_, fun j ps hj hp => ?_, fun i j ps qs' hi' hp hj' hq e => ?_⟩, g1, go, β', g7, gb.symm⟩
 ·show (if _ then _ else if _ then _ else _) = _
  rw [if_neg oM, if_neg oM]; exact hI.pin j hj
 ·rcases src j ps hj hp with ⟨rfl, rfl⟩ | ⟨r', hr', rfl, rfl⟩ | ⟨hj2, e1, e2⟩
  ·rw [gb]
   obtain ⟨r1, us, rs, T', r2, r3, r4⟩ := g5.box 400 _ c400 (outne hp)
   have l400 : lk 400 = true := rfl
   have r2' : w'.heap[β' 400]? = some (.cells (us.map (tr β') ++ rs).toArray T' (0, 0)) := by unfold tI at r2; rw [l400] at r2; exact r2
   obtain ⟨vs2, k1, k2, k3⟩ := PsMv.all (ρ := fun i => 200 + (i - d)) (s := mbx 400 200 π n m g) (t := mbx j d π n m g ++ bx) (PsMv.out (f := fun i => ownP (200 + π i) 0 m m) (g := fun i => ownP (d + π i) 0 m m) (n := n) fun i hin => PMv.own (by rw [Nat.add_sub_cancel_left]) (by rw [L, if_neg (by have := hπ i hin; omega), if_pos (by have := hπ i hin; omega)]; simp) (by unfold grows; have := hπ i hin; omega) (by unfold grows; have := hπ i hin; omega)) r3 (r4 l400)
   have key : ∀ v ∈ vs2, tr (fun i => β' (200 + (i - d))) v = tr γ v ∧ lref γ (mbx j d π n m g ++ bx) v := fun v hv => by
    obtain ⟨p, hp1, hp2⟩ := k2.mem v hv
    obtain ⟨i, hin, rfl⟩ := cZh hp1
    obtain ⟨cc, rfl, _, _⟩ := hp2
    have hng : ¬ grows (d + π i) := by unfold grows; have := hπ i hin; omega
    refine ⟨?_, fun r o l c e => ?_⟩
    ·rw [bZp hng, bZp hng, gd _ (hπ i hin)]
     simp only [Nat.add_sub_cancel_left]
    ·cases e
     exact ⟨(k3 _ hv _ _ _ _ rfl).1, fun h => absurd h hng⟩
   refine ⟨⟨fun _ => Nat.le_trans hi.below.size (cal 400 _ c400 (outne hp)), fun h => absurd h oM⟩, r1, vs2, rs, T', ?_, k2, fun hg => absurd hg uG, fun _ v hv => (key v hv).2⟩
   have e2 : tI j γ vs2 = vs2.map (tr γ) := by unfold tI; rw [hlb]; rfl
   rw [e2, ← List.map_congr_left fun v hv => (key v hv).1, ← k1]
   exact r2'
  ·rw [gd r' hr']
   obtain ⟨r1, us, rs, T', r2, r3, _⟩ := g5.box (200 + r') _ (crow r' hr') hp
   have hl1 : lk (200 + r') = false := bZL oM
   have hl2 : lk (d + r') = false := bZL oM
   rw [bZ3 hl1] at r2
   exact ⟨⟨fun _ => Nat.le_trans hi.below.size (cal _ _ (crow r' hr') hp), fun h => absurd h oM⟩, r1, us, rs, T', by rw [bZ3 hl2]; exact r2, r3, fun hg => absurd hg uG, bZd hl2 _ _ _⟩
  ·rw [go j (by rw [hj2]; simp)]
   obtain ⟨r0, r1, us, rs, T', r2, r3, r4, r5⟩ := hI.box j ps hj2 hp
   obtain ⟨k1, k2⟩ := bZE r5 live
   refine ⟨r0, r1, us, rs, T', by rw [k2]; exact r2, r3, fun hg => ?_, k1⟩
   rw [r4 hg]
   show _ = (if _ then _ else if _ then _ else _)
   have := hg.1
   rw [if_neg oM, if_neg oM]
 ·rcases src i ps hi' hp with ⟨ei, epi⟩ | ⟨r1, hr1, ei, epi⟩ | ⟨hi2, e1, e2⟩ <;> rcases src j qs' hj' hq with ⟨ej, epj⟩ | ⟨r2, hr2, ej, epj⟩ | ⟨hj2, f1, f2⟩
  ·rw [ei, ej]
  ·subst ei ej
   rw [gb, gd _ hr2] at e
   have := g5.inj 400 (200 + r2) _ _ c400 (outne (epi ▸ hp)) (crow r2 hr2) (epj ▸ hq) e
   omega
  ·subst ei
   rw [gb, go j (by rw [hj2]; simp)] at e
   have := cal 400 _ c400 (outne (epi ▸ hp))
   have := hlt j _ hj2 hq
   omega
  ·subst ei ej
   rw [gb, gd _ hr1] at e
   have := g5.inj (200 + r1) 400 _ _ (crow r1 hr1) (epi ▸ hp) c400 (outne (epj ▸ hq)) e
   omega
  ·subst ei ej
   rw [gd _ hr1, gd _ hr2] at e
   have := g5.inj (200 + r1) (200 + r2) _ _ (crow r1 hr1) (epi ▸ hp) (crow r2 hr2) (epj ▸ hq) e
   omega
  ·subst ei
   rw [gd _ hr1, go j (by rw [hj2]; simp)] at e
   have := cal _ _ (crow r1 hr1) (epi ▸ hp)
   have := hlt j _ hj2 hq
   omega
  ·subst ej
   rw [gb, go i (by rw [hi2]; simp)] at e
   have := cal 400 _ c400 (outne (epj ▸ hq))
   have := hlt i _ hi2 hp
   omega
  ·subst ej
   rw [gd _ hr2, go i (by rw [hi2]; simp)] at e
   have := cal _ _ (crow r2 hr2) (epj ▸ hq)
   have := hlt i _ hi2 hp
   omega
  ·rw [go i (by rw [hi2]; simp), go j (by rw [hj2]; simp)] at e
   exact hI.inj i j _ _ hi2 hp hj2 hq e
section
variable {nn : Nat} {sl : Sl} {bx : Bx} {dst : Option Tmp} {ty : TypeId} {pos : String} {after : Array Edge} {guard : Option (Nat × Bool)}
def okBD (bx : Bx) (b d : Nat) : Bool := lk b && Nat.ble 400 b && Nat.blt b 500 && Nat.ble (d + 8) 400 && (look bx b).isNone && (ids d).all (fun i => (look bx i).isNone)
theorem hZB {bx : Bx} {b d : Nat} (h : okBD bx b d = true) : lk b = true ∧ (400 ≤ b ∧ b < 500) ∧ d + 8 ≤ 400 ∧ look bx b = none ∧ ∀ j, j < 8 → look bx (d + j) = none := by
 unfold okBD at h
 simp only [Bool.and_eq_true] at h
 obtain ⟨⟨⟨⟨⟨h1, h2⟩, h3⟩, h4⟩, h5⟩, h6⟩ := h
 refine ⟨h1, ⟨Nat.le_of_ble_eq_true h2, Nat.le_of_ble_eq_true h3⟩, Nat.le_of_ble_eq_true h4, by simpa using h5, fun j hj => ?_⟩
 have := List.all_eq_true.1 h6 _ (bZ4 hj)
 simpa using this
theorem hZt {f : FuncId} {xs : List Operand} {ats : Array TypeId} {az : List Pd} {r r' : SD} {b d n m : Nat} {π : Nat → Nat} {g : Nat → List Pd} [hb : CBody P f] (hf : FnG P En f (az.map .one) [] r (mbx 400 200 π n m g)) (ha : args sl xs az) (hπ : ∀ i, i < n → π i < 8) (hbd : okBD bx b d = true)
  (hr : ∀ h β βc v, r.ok h βc v → βc 400 = β b → r'.ok h β v) (hl : ∀ t, look t b ≠ none → r'.live t) :
  RT P En nn ⟨dst, .call ⟨.value (.func f), xs.toArray, ats⟩, ty, pos, after, guard⟩ sl bx ⟨r', [], mbx b d π n m g⟩ := by
 obtain ⟨b1, b2, b3, b4, b5⟩ := hZB hbd
 intro sl' bx' h1 _ h3 w0 h0 c h β a w Q hi hs
 have hargs : AllV h az (xs.map a.eval) := fZE ha (fun x hx s hxs => aZI hs (by rw [h1 x (by simp [Op.operands, Call.operands, hx])]; exact hxs))
 have hkey : ∀ i, i ∈ (mbx b d π n m g).map (·.1) → look bx' i = look bx i := h3
 have hmem : ∀ j, j < 8 → d + j ∈ (mbx b d π n m g).map (·.1) := fun j hj => by
  show d + j ∈ b :: (rws d g).map (·.1)
  rw [dZS]
  exact List.mem_cons_of_mem _ (bZ4 hj)
 unfold Oper.wp
 rw [execOp_call_go]
 rw [show (#[] ++ xs.toArray.map a.eval ++ #[]) = (xs.map a.eval).toArray by simp, cZr hb.ok]
 refine Calls.mono (call_X hi hf hargs hπ ((hkey b (by show b ∈ b :: _; simp)).trans b4) (fun j hj => (hkey _ (hmem j hj)).trans (b5 j hj)) b1 b2 b3) ?_
 rintro e w' ⟨v, h', β', rfl, g1, g2, g3, βc, g4, g5⟩
 refine ⟨v, h', β', rfl, g1, g2, g3, hr _ _ _ _ g4 g5, hl _ ?_⟩
 rw [eZf, if_pos rfl]; simp
theorem cZ1 {f : FuncId} {xs : List Operand} {ats : Array TypeId} {az : List Pd} {n m : Nat} {π : Nat → Nat} {g : Nat → List Pd} (b d : Nat) [hb : CBody P f] (hf : FnG P En f (az.map .one) [] (.own 400 0 n n) (mbx 400 200 π n m g)) (ha : args sl xs az) (hπ : ∀ i, i < n → π i < 8) (hbd : okBD bx b d = true) :
  RT P En nn ⟨dst, .call ⟨.value (.func f), xs.toArray, ats⟩, ty, pos, after, guard⟩ sl bx ⟨.own b 0 n n, [], mbx b d π n m g⟩ :=
 hZt hf ha hπ hbd (fun h β βc v ⟨c, e, h1⟩ e2 => ⟨c, by rw [← e2]; exact e, h1⟩) (fun t h => h)
theorem lZL {f : FuncId} {xs : List Operand} {ats : Array TypeId} {az : List Pd} {n m : Nat} {π : Nat → Nat} {g : Nat → List Pd} (b d : Nat) [hb : CBody P f] (hf : FnG P En f (az.map .one) [] (.gen (tupX 400 n)) (mbx 400 200 π n m g)) (ha : args sl xs az) (hπ : ∀ i, i < n → π i < 8) (hbd : okBD bx b d = true) :
  RT P En nn ⟨dst, .call ⟨.value (.func f), xs.toArray, ats⟩, ty, pos, after, guard⟩ sl bx ⟨.gen (tupX b n), [], mbx b d π n m g⟩ :=
 hZt hf ha hπ hbd (fun h β βc v ⟨c, e, h1⟩ e2 => ⟨c, by rw [← e2]; exact e, h1⟩) (fun t h i hi => by rw [show i = b from by simpa [tupX] using hi]; exact h)
theorem ru_extX {x : Operand} {b n : Nat} (hx : osd sl x = some (.gen (tupX b n))) : RT P En nn ⟨dst, .extract x 0, ty, pos, after, guard⟩ sl bx ⟨.own b 0 n n, [], []⟩ :=
 RT.pure fun ρ h β bx' H => by
  obtain ⟨⟨c, e, h1⟩, hl⟩ := H x (by simp [Op.operands]) _ hx
  exact ⟨_, fun _ _ => by simp only [execOp, e]; rfl, ⟨c, rfl, h1⟩, hl b (by simp [tupX])⟩
theorem oZg {x : Operand} {b n : Nat} (hx : osd sl x = some (.gen (tupX b n))) : RT P En nn ⟨dst, .extract x 1, ty, pos, after, guard⟩ sl bx ⟨.one (ex (.bool true)), [], []⟩ :=
 RT.pure fun ρ h β bx' H => by
  obtain ⟨⟨c, e, h1⟩, hl⟩ := H x (by simp [Op.operands]) _ hx
  exact ⟨_, fun _ _ => by simp only [execOp, e]; rfl, rfl, trivial⟩
end
theorem FnX.const {f : FuncId} {az : List Pd} {r : SD} {rp : Pd} {n m k : Nat} {π : Nat → Nat} {g : Nat → List Pd} {F : Nat → Nat → List Pd} (hf : FnG P En f (az.map .one) [] r (mbx 400 200 π n m g)) (hπ : ∀ i, i < n → π i < 8) (hg : ∀ i, i < n → g (π i) = rowL (F i) m) (hk : ∀ i c, i < n → c < m → (F i c).length = k)
  (hr : ∀ h h' β v, r.ok h β v → (∀ cap, n ≤ cap → cap ≤ maxLen → (cmt k m F n).p h' (.slice (some ⟨β 400, 0, none⟩) n cap)) → rp.p h' v) : Fn P En f az rp := by
 intro h w vs he hh ha
 refine (hf h (fun _ => 0) w vs he hh ⟨fun i qs hq => (by cases hq), fun i j ps qs hi' => (by cases hi')⟩ (fun i ps hi' => (by cases hi')) (hZe ha)).mono ?_
 rintro e w' ⟨v, h', β', rfl, g1, g2, g3, g4, g5, g6, g8, g7, _⟩
 have L0 : ∀ i, look (mbx 400 200 π n m g) i = _ := fun i => dZr (b := 400) (d := 200) (n := n) (m := m) (π := π) (g := g) i
 have small : ∀ i ps, look (mbx 400 200 π n m g) i = some ps → i < 500 := fun i ps hp => by
  rw [L0] at hp
  split at hp
  ·omega
  ·split at hp
   ·omega
   ·cases hp
 have hI : Inv En w h ⟨fun _ => False, β'⟩ h' β' (mbx 400 200 π n m g) w' := by
  refine ⟨he, g2, g1, g3, ⟨g4.os, g4.tape, g4.output, g4.size, fun k hk _ => g4.block k hk (by rintro ⟨i, ⟨ps, hi', _⟩, _⟩; cases hi')⟩, fun k hm => hm.elim fun _ h => h.1.elim, fun _ _ => rfl, fun i ps hp hps => ?_, g5.inj⟩
  obtain ⟨r1, us, rs, T', r2, r3, r4⟩ := g5.box i ps hp hps
  have := small i ps hp
  exact ⟨⟨(g8 i ps hp hps).1, fun h => absurd h oM⟩, r1, us, rs, T', r2, r3, fun hg => absurd hg.1 oM, r4⟩
 obtain ⟨h2, i2, l2, k2⟩ := hI.pubX (b := 400) (d := 200) (F := F) (k := k) (bx2 := []) (by rw [L0, if_pos rfl]) rfl oM (fun j hj => by rw [L0, if_neg oM, if_pos oM, Nat.add_sub_cancel_left]) oM hπ hg hk trivial (fun qs hq => by cases hq) (fun j qs _ hq => by cases hq) (fun i ps _ hp => by cases hp)
 exact ⟨v, h2, rfl, i2.le0, i2.holds, i2.fresh, (i2.below.weaken fun _ h => h.elim fun _ h => h.1.elim).toBelow, hr _ _ _ _ g7 k2⟩
theorem FnX.const1 {f : FuncId} {az : List Pd} {n m k : Nat} {π : Nat → Nat} {g : Nat → List Pd} {F : Nat → Nat → List Pd} (hf : FnG P En f (az.map .one) [] (.own 400 0 n n) (mbx 400 200 π n m g)) (hπ : ∀ i, i < n → π i < 8) (hg : ∀ i, i < n → g (π i) = rowL (F i) m) (hk : ∀ i c, i < n → c < m → (F i c).length = k) : Fn P En f az (cmt k m F n) :=
 FnX.const hf hπ hg hk fun _ _ _ _ ⟨c, e, h1, h2⟩ H => by rw [e]; exact H c h1 h2
theorem FnX.const2 {f : FuncId} {az : List Pd} {n m k : Nat} {π : Nat → Nat} {g : Nat → List Pd} {F : Nat → Nat → List Pd} (hf : FnG P En f (az.map .one) [] (.gen (tupX 400 n)) (mbx 400 200 π n m g)) (hπ : ∀ i, i < n → π i < 8) (hg : ∀ i, i < n → g (π i) = rowL (F i) m) (hk : ∀ i c, i < n → c < m → (F i c).length = k) : Fn P En f az (tupP [cmt k m F n, ex (.bool true)]) :=
 FnX.const hf hπ hg hk fun _ _ _ _ ⟨c, e, h1, h2⟩ H => ⟨[_, _], e, H c h1 h2, rfl, trivial⟩
end
end
end Go.Proofs.YtfmjdlogjmofbaaGreatDoor

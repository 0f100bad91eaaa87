/- A splitting that is kept when boxes get other numbers; a struct of slices that is written no more. For any program. -/
import Derived.Test.YtfmjdlogjmofbaaGreatDoorKn
import Derived.Test.YtfmjdlogjmofbaaGreatDoorMem
import Derived.Test.YtfmjdlogjmofbaaGreatDoorHe
import Derived.Test.YtfmjdlogjmofbaaGreatDoorW
set_option maxRecDepth 3000
namespace Go.Proofs.YtfmjdlogjmofbaaGreatDoor
section
open Go.RowKit Limb
theorem mvBx.famN {s t : Bx} {a src d : Nat} {f g : Nat → List Pd} {l : Bx} (hf : Fam s d f) (hd : d + 8 ≤ 400) (ha : (a < d ∨ d + 8 ≤ a) ∧ (a + 250 < d ∨ d + 8 ≤ a + 250)) (hle : ∀ j, j < 8 → PsLe (f j) (g j)) (r : mvBx (mvr a src) s t l) : mvBx (mvr a src) s t (rws d g ++ l) :=
 mvBx.fam (fun j hj => BMv.keep (bZL oM) oM oM uG (hf j hj) (hle j hj)) r
theorem mvBx.sbx {s t : Bx} {a src bS bG dG bT dT : Nat} {p m k : Int} {n : Nat} {π : Nat → Nat} {g g0 u u0 : Nat → List Pd} {l : Bx} (hS : look s bS = some (sC bG bT p m k n)) (hG : look s bG = some (outL (owP dG n π) n)) (hg : Fam s dG g0) (hT : look s bT = some (outL (owP dT n fun i => i) n)) (ht : Fam s dT u0) (eg : ∀ j, j < 8 → PsLe (g0 j) (g j)) (et : ∀ j, j < 8 → PsLe (u0 j) (u j))
  (hb : (lk bS = true ∧ lk bG = true ∧ lk bT = true) ∧ (bS < 500 ∧ bG < 500 ∧ bT < 500)) (hd : dG + 8 ≤ 400 ∧ dT + 8 ≤ 400) (na : (bS ≠ a ∧ bG ≠ a ∧ bT ≠ a) ∧ (bS ≠ a + 250 ∧ bG ≠ a + 250 ∧ bT ≠ a + 250)) (nd : ((a < dG ∨ dG + 8 ≤ a) ∧ (a + 250 < dG ∨ dG + 8 ≤ a + 250)) ∧ ((a < dT ∨ dT + 8 ≤ a) ∧ (a + 250 < dT ∨ dT + 8 ≤ a + 250)))
  (lG : look t bG ≠ none) (lT : look t bT ≠ none) (lg : ∀ j, j < 8 → look t (dG + j) ≠ none) (lt : ∀ j, j < 8 → look t (dT + j) ≠ none) (hn : n ≤ 8) (hπ : ∀ i, i < n → π i < 8) (r : mvBx (mvr a src) s t l) : mvBx (mvr a src) s t (sbx bS bG dG bT dT p m k n π g u ++ l) := by
 show mvBx _ _ _ ((bS, _) :: (bG, _) :: ((rws dG g ++ ((bT, _) :: rws dT u)) ++ l))
 rw [List.append_assoc]
 have cell : ∀ {b x y : Nat}, b < 500 → b ≠ a → b ≠ a + 250 → look t b ≠ none → PMv (mvr a src) s t (ownP b 0 x y) (ownP b 0 x y) := fun h1 h2 h3 h4 => PMv.own (aZ7 h2 h3) h4 uG uG
 refine ⟨BMv.cells hb.1.1 na.1.1 na.2.1 uG hS ⟨PMv.flat (PLe.refl _), PMv.flat (PLe.refl _), PMv.flat (PLe.refl _), cell hb.2.2.1 na.1.2.1 na.2.2.1 lG, cell hb.2.2.2 na.1.2.2 na.2.2.2 lT, trivial⟩, BMv.out hb.1.2.1 na.1.2.1 na.2.2.1 uG hG (fun i hi => ?_), mvBx.famN hg hd.1 nd.1 eg ⟨BMv.out hb.1.2.2 na.1.2.2 na.2.2.2 uG hT (fun i hi => ?_), mvBx.famN ht hd.2 nd.2 et r⟩⟩
 ·have := hπ i hi
  exact cell oM oM oM (lg _ this)
 ·exact cell oD oD oD (lt i oM)
theorem mZp {s t : Bx} {a src bS bG dG bT dT : Nat} {p m k : Int} {n : Nat} {π : Nat → Nat} {g g0 u u0 : Nat → List Pd} (hS : look s bS = some (sC bG bT p m k n)) (hG : look s bG = some (outL (owP dG n π) n)) (hg : Fam s dG g0) (hT : look s bT = some (outL (owP dT n fun i => i) n)) (ht : Fam s dT u0) (eg : ∀ j, j < 8 → PsLe (g0 j) (g j)) (et : ∀ j, j < 8 → PsLe (u0 j) (u j))
  (hb : (lk bS = true ∧ lk bG = true ∧ lk bT = true) ∧ (bS < 500 ∧ bG < 500 ∧ bT < 500)) (hd : dG + 8 ≤ 400 ∧ dT + 8 ≤ 400) (na : (bS ≠ a ∧ bG ≠ a ∧ bT ≠ a) ∧ (bS ≠ a + 250 ∧ bG ≠ a + 250 ∧ bT ≠ a + 250)) (nd : ((a < dG ∨ dG + 8 ≤ a) ∧ (a + 250 < dG ∨ dG + 8 ≤ a + 250)) ∧ ((a < dT ∨ dT + 8 ≤ a) ∧ (a + 250 < dT ∨ dT + 8 ≤ a + 250)))
  (lG : look t bG ≠ none) (lT : look t bT ≠ none) (lg : ∀ j, j < 8 → look t (dG + j) ≠ none) (lt : ∀ j, j < 8 → look t (dT + j) ≠ none) (hn : n ≤ 8) (hπ : ∀ i, i < n → π i < 8) : mvBx (mvr a src) s t (sbx bS bG dG bT dT p m k n π g u) := by
 have := mvBx.sbx (src := src) (t := t) (l := []) hS hG hg hT ht eg et hb hd na nd lG lT lg lt hn hπ trivial
 rwa [List.append_nil] at this
def pjS (s : Sl) (m bx : Bx) (b d : Nat) : Sl → Prop
 | [] => True
 | (t, sd) :: l => (((∃ sd', look s t = some sd' ∧ SLe sd' sd) ∧ sd.live m ∧ sd.live bx) ∨ (∃ o, look s t = some (.ptr b o) ∧ sd = .ptr d o)) ∧ pjS s m bx b d l
theorem lZY {s : Sl} {m bx : Bx} {b d : Nat} : ∀ {l : Sl}, pjS s m bx b d l → ∀ {t : Nat} {sd : SD}, look l t = some sd → (((∃ sd', look s t = some sd' ∧ SLe sd' sd) ∧ sd.live m ∧ sd.live bx) ∨ (∃ o, look s t = some (.ptr b o) ∧ sd = .ptr d o))
 | [], _, _, _, h => by cases h
 | (k, x) :: l, ⟨h1, h3⟩, t, sd, h => by
  rw [aZc] at h
  split at h
  ·rename_i e; subst e; cases h; exact h1
  ·exact lZY h3 h
theorem Sub.pubJ {σ τ : St} (b d g : Nat) {q : Pd} {bT n k len : Nat} {qs : List Pd} {l : Bx} (hq : Flat q) (hb : look σ.bx b = some [q, ownP bT 0 n n, appP g k len]) (hg : look σ.bx g = some qs) (hlen : qs.length = len * k) (hl0 : 0 < len) (hgg : (500 ≤ g ∧ g < 700)) (hbk : (400 ≤ b ∧ b < 500)) (hd : d < 400) (hlg : lk g = false) (hlb : lk b = true) (hτ : τ.bx = (d, [q, anyC, slc k qs len]) :: l)
  (hs : pjS σ.sl l τ.bx b d τ.sl) (hl : subBx σ.bx l) (hlk : ∀ i ps, look l i = some ps → lk i = false ∧ i ≠ d ∧ i < 400) (hld : look l d = none) : Sub σ τ := by
 rintro En nn w0 h0 c a w ⟨h, β, hi, hsl⟩
 obtain ⟨h', vs, hi', hle, hall, _, hcell⟩ := hi.pubG (bx' := (g, []) :: σ.bx) g oM hg (fun i ps hp => by
  rw [aZc] at hp
  split at hp
  ·cases hp; exact .inr rfl
  ·exact .inl ⟨ps, hp, PsLe.refl _⟩) (fun ps hp => by rw [aZc, if_pos rfl] at hp; cases hp; rfl) (fun i ps _ _ => .inl fun r hr => dZp hr)
 rw [bZ3 hlg] at hcell
 have hb' : look ((g, ([] : List Pd)) :: σ.bx) b = some [q, ownP bT 0 n n, appP g k len] := by rw [aZc, if_neg oM]; exact hb
 obtain ⟨⟨r0, _⟩, r2, us, rest, T, r3, r4, _, r6⟩ := hi'.box b _ hb' (by simp)
 rw [hZn hlb] at r3
 have r6 := r6 hlb
 obtain ⟨u1, u2, u3, rfl⟩ : ∃ u1 u2 u3, us = [u1, u2, u3] := by
  match us, r4 with
  | [u1, u2, u3], _ => exact ⟨u1, u2, u3, rfl⟩
  | [], h => exact h.elim
  | [_], h => exact h.2.2.elim
  | [_, _], h => exact h.2.2.2.2.elim
  | _ :: _ :: _ :: _ :: _, h => exact h.2.2.2.2.2.2.elim
 obtain ⟨p1, o1, p2, o2, p3, o3, _⟩ := r4
 have e1 : tr β u1 = u1 := bZM (hq.flat h' u1 p1)
 have p3 : u3 = codA g k len := p3
 obtain ⟨len, rfl⟩ : ∃ len', len = len' + 1 := ⟨len - 1, oM⟩
 have hgr : grows g := by unfold grows; omega
 have e3 : tr β u3 = .slice (some ⟨β g, 0, none⟩) (len + 1) (β (g + 250) / k) := by
  rw [p3]; show tr β (.slice _ _ _) = _; rw [eZm hgr]
 obtain ⟨_, x2⟩ := r6 u3 (by simp) g k (len + 1) 0 p3
 obtain ⟨_, y1, y2, y3, y4, _⟩ := x2 hgr
 have hall2 : All2 h' [q, anyC, slc k qs (len + 1)] [u1, tr β u2, tr β u3] := by
  refine ⟨p1, o1, fZQ o2, fZQ o2, ?_, fZQ o3, trivial⟩
  rw [e3]
  exact ⟨_, _, rfl, y3, y4, (fun h => by cases h), hlen, fun _ => ⟨β g, 0, vs, rfl, hall, fun j u hu => by rw [Nat.zero_add]; exact hcell j u hu⟩⟩
 have src : ∀ i ps, look τ.bx i = some ps → ps ≠ [] → (i = d ∧ ps = [q, anyC, slc k qs (len + 1)]) ∨ (i ≠ d ∧ i < 400 ∧ lk i = false ∧ ∃ ps', look ((g, ([] : List Pd)) :: σ.bx) i = some ps' ∧ ps' ≠ [] ∧ PsLe ps' ps) := fun i ps hp hps => by
  rw [hτ, aZc] at hp
  split at hp
  ·rename_i e; cases hp; exact .inl ⟨e.symm, rfl⟩
  ·rename_i e
   obtain ⟨g1, g2, g3⟩ := hlk i ps hp
   rcases cZD hl hp with ⟨ps', q1, q2⟩ | rfl
   ·exact .inr ⟨g2, g3, g1, ps', by rw [aZc, if_neg oM]; exact q1, by rintro rfl; exact hps q2.nil, q2⟩
   ·exact absurd rfl hps
 have γo : ∀ i, i ≠ d → upd β d (β b) i = β i := fun i hi => aZ3 hi
 refine ⟨h', upd β d (β b), ⟨hi'.env, hi'.holds, hi'.le0, hi'.fresh, hi'.below, hi'.dis, fun i hge => by rw [γo i oM]; exact hi'.pin i hge, fun i ps hp hps => ?_, fun i j ps qs' hp hps hq' hqs e => ?_⟩, hsl.defers, hsl.size, fun t sd ht => ?_⟩
 ·rcases src i ps hp hps with ⟨rfl, rfl⟩ | ⟨n1, n2, n3, ps', q1, q2, q3⟩
  ·rw [aZZ]
   refine ⟨⟨fun _ => r0 oM, fun h => absurd h oM⟩, r2, [u1, tr β u2, tr β u3], rest, T, ?_, hall2, fun hgw => absurd hgw uG, bZd (bZL hd) _ _ _⟩
   rw [bZ3 (bZL hd)]
   have : [u1, u2, u3].map (tr β) = [u1, tr β u2, tr β u3] := by rw [List.map_cons, List.map_cons, List.map_cons, List.map_nil, e1]
   rw [← this]; exact r3
  ·rw [γo i n1]
   obtain ⟨k1, k2, ws, rs, T', k3, k4, k5, _⟩ := hi'.box i ps' q1 q2
   rw [bZ3 n3] at k3
   obtain ⟨v1, v2, e, hv⟩ := q3.all k4
   exact ⟨k1, k2, v1, v2 ++ rs, T', by rw [bZ3 n3, ← List.append_assoc, ← e]; exact k3, hv, fun hgw => absurd hgw uG, bZd n3 _ _ _⟩
 ·have ne : ∀ {i : Nat} {ps' : List Pd}, look ((g, ([] : List Pd)) :: σ.bx) i = some ps' → ps' ≠ [] → i < 400 → β i ≠ β b := fun q1 q2 n2 e => by
   have := hi'.inj _ _ _ _ q1 q2 hb' (by simp) e
   omega
  rcases src i ps hp hps with ⟨rfl, _⟩ | ⟨n1, n2, _, ps1, q1, q2, _⟩ <;> rcases src j qs' hq' hqs with ⟨rfl, _⟩ | ⟨m1, m2, _, ps2, k1, k2, _⟩
  ·rfl
  ·rw [aZZ, γo j m1] at e; exact absurd e.symm (ne k1 k2 m2)
  ·rw [aZZ, γo i n1] at e; exact absurd e (ne q1 q2 n2)
  ·rw [γo i n1, γo j m1] at e; exact hi'.inj i j _ _ q1 q2 k1 k2 e
 ·rcases lZY hs ht with ⟨⟨sd', g1, g2⟩, g3, g4⟩ | ⟨o, g1, rfl⟩
  ·obtain ⟨v, k1, k2, _⟩ := hsl.slot t sd' g1
   exact ⟨v, k1, SD.ok_mono (g2.ok k2) g3 hle (fun i hi => γo i (by rintro rfl; exact hi hld)), g4⟩
  ·obtain ⟨v, k1, k2, _⟩ := hsl.slot t _ g1
   exact ⟨v, k1, by show v = _; rw [aZZ]; exact k2, by show look τ.bx d ≠ none; rw [hτ, aZc, if_pos rfl]; simp⟩
end
section
open Go.RowKit Limb Det Num
theorem qZo {v : Int → Nat} {A : Nat → Nat → Int} {n : Nat} : ∀ {f i : Nat} {ab : Nat × Nat}, i + f ≤ n → ab.1 < n ∧ ab.2 < n → (lsD v A f i ab).1 < n ∧ (lsD v A f i ab).2 < n
 | 0, _, _, _, h => h
 | f + 1, i, _, hi, h => qZo (f := f) (i := i + 1) oM (qZg h oM oM)
theorem qZj {v : Int → Nat} {A : Nat → Nat → Int} {n i : Nat} (hin : i < n) : ∀ {f j : Nat} {ab : Nat × Nat}, j + f ≤ n → ab.1 < n ∧ ab.2 < n → (lsR v A i f j ab).1 < n ∧ (lsR v A i f j ab).2 < n
 | 0, _, _, _, h => h
 | f + 1, j, _, hj, h => qZj hin (f := f) (j := j + 1) oM (qZg h hin oM)
theorem qZm {v : Int → Nat} {A : Nat → Nat → Int} {n : Nat} : ∀ {f i : Nat} {ab : Nat × Nat}, i + f ≤ n → ab.1 < n ∧ ab.2 < n → (lsO v A f i ab).1 < n ∧ (lsO v A f i ab).2 < n
 | 0, _, _, _, h => h
 | f + 1, i, _, hi, h => qZm (f := f) (i := i + 1) oM (qZj oM oM h)
theorem eZh {p k n r : Nat} {A : Nat → Nat → Int} (hr : r < n) : (aZA p k n A r).1 < n ∧ (aZA p k n A r).2 < n :=
 qZm oM (qZo oM ⟨hr, hr⟩)
abbrev MM := (Nat → Nat → Int) × (Nat → Nat → Int)
def MB2 (n m : Nat) (x : MM) : Prop := MB n m x.1 ∧ MB n m x.2
theorem mZf {m n r q : Nat} {u : Int} (hm : 1 ≤ m) : ∀ {f j : Nat} {x : MM}, MB2 n m x → MB2 n m (oneL m n r q u f j x)
 | 0, _, _, h => h
 | f + 1, j, _, h => mZf hm (f := f) (j := j + 1) ⟨h.1.addM hm _ _ _, h.2.colA hm _ _ _ _⟩
def dcA1 (p k m n r : Nat) (x : MM) : MM := if (aZA p k n x.1 r).1 = (aZA p k n x.1 r).2 then x else (addM m 1 (aZA p k n x.1 r).2 (aZA p k n x.1 r).1 n x.1, colA m 1 (aZA p k n x.1 r).2 (aZA p k n x.1 r).1 n x.2)
def dcA (p k m n r : Nat) (x : MM) : MM := (twM r (aZA p k n x.1 r).1 (dcA1 p k m n r x).1, twC r (aZA p k n x.1 r).1 n (dcA1 p k m n r x).2)
def dcS (p k m n : Nat) (A : Nat → Nat → Int) : Nat → MM
 | 0 => (A, idM)
 | r + 1 => oneM p k m n r (dcA p k m n r (dcS p k m n A r))
def dcB (p k m n : Nat) (A : Nat → Nat → Int) (r : Nat) : List Pd := oneB p k m n r (dcA p k m n r (dcS p k m n A r))
theorem nZj {p k m n r : Nat} {x : MM} (hm : 1 ≤ m) (h : MB2 n m x) : MB2 n m (dcA1 p k m n r x) := by
 unfold dcA1
 split
 ·exact h
 ·exact ⟨h.1.addM hm _ _ _, h.2.colA hm _ _ _ _⟩
theorem qZA {p k m n r : Nat} {x : MM} (hm : 1 ≤ m) (hr : r < n) (h : MB2 n m x) : MB2 n m (dcA p k m n r x) :=
 have h1 := nZj (p := p) (k := k) (r := r) hm h
 ⟨h1.1.twM hr (eZh hr).1, h1.2.twC hr (eZh hr).1⟩
theorem qZ9 {p k m n : Nat} {A : Nat → Nat → Int} (hm : 2 ≤ m) (hA : MB n m A) : ∀ {r : Nat}, r ≤ n → MB2 n m (dcS p k m n A r)
 | 0, _ => ⟨hA, fun r x _ _ => by show 0 ≤ idM r x ∧ idM r x < (m : Int); unfold idM; split <;> omega⟩
 | r + 1, h => mZf oM (qZA oM oM (qZ9 hm hA oM))
theorem nZh {p k m n : Nat} {A : Nat → Nat → Int} (r : Nat) : (dcB p k m n A r).length = 5 := rfl
theorem nZT {n i : Nat} (hi : i < n) : ((List.replicate n ([.int .i64 0].map ex)).flatten).set (0 + i * 1) (ex (.int .i64 1)) = aZy idM (i + 1) n i := by
 rw [aZl oM, bZ9, Nat.zero_add, Nat.mul_one]
 show (outL (fun _ => ex (.int .i64 0)) n).set i _ = outL _ n
 rw [dZz hi]
 refine aZu fun c hc => ?_
 unfold idM
 by_cases e : c = i
 ·rw [if_pos e, if_pos e.symm]
 ·rw [if_neg e, if_neg fun h => e h.symm]
section
variable (En : Ev)
set_option maxHeartbeats 2000000 in
theorem kZW (A : Nat → Nat → Int) (n p k m : Nat) (hF : Fm n A) (hp : 3 ≤ p) (hp2 : p ≤ 1000) (hk : k = dgs (det n A) p) (hm : m = p ^ k) (hm2 : m ≤ 2147483648) : Fn Tryz.prog En 32 [imt A n n, ex (.int .i64 (p : Int))] (aggP [ex (.int .i64 (p : Int)), anyC, slc 5 (rowL (dcB p k m n (remM A m)) n) n]) := by
 have hn1 := hF.n1
 have hn7 := hF.n7
 have hpo := hF.po n (Nat.le_refl n)
 have hdn := hF.dn
 have C1 := hdigits En A n 2 p hn1 oM oM (fun i j hi hj => by
  have := hF.en i j hi hj
  exact bZa oM oM) (fun i j hi hj => by
  have := hF.en i j hi hj
  exact ⟨oM, oM⟩) oM oM oM oM
 rw [← hk] at C1
 have hkm : k < m := by rw [hm]; exact Nat.lt_pow_self oM
 have hk1 : 1 ≤ k := by rw [hk]; unfold dgs; split <;> omega
 have hm1 : 2 ≤ m := by
  have : p ^ 1 ≤ p ^ k := Nat.pow_le_pow_right oM hk1
  rw [Nat.pow_one] at this
  omega
 have C2 := qZ0 En p k oM (by rw [← hm]; omega) oM
 rw [← hm] at C2
 have C3 := hreduce En A n m hn1 oM oM oM
 have hR : MB n m (remM A m) := fun r x _ _ => ⟨Int.emod_nonneg _ oM, Int.emod_lt_of_pos _ oM⟩
 refine aZb Tryz.func32 rfl Tryz.ntmps32 rfl ?_
 intro w0 h0
 refine js<|jr<|jA jj jj jj<|jn<|js<|jr<|jm jj<|jm jj<|jS (aZa C1 tB)<|ja jj<|jn<|js<|jr<|jm jj<|jm jj<|jm jj<|jm jj<|jS (aZa C2 tB)<|jS (aZj (ps := [(_, _), (_, _), (_, _)]) ⟨jj, Part.c jj, jj, Part.c jj, jj, Part.c jj, trivial⟩ jj)<|jB jj jj jj<|ja jj<|jn ?_
 refine WpD.sub (τ := ⟨[(0, .one (imt A n n)), (1, .one (ex (.int .i64 (p : Int)))), (4, .ptr 4 0), (6, .ptr 403 0)], [(403, [ex (.int .i64 (p : Int)), ex (.int .i64 (m : Int)), ex (.int .i64 (k : Int)), ex (.slice none 0 0), ex (.slice none 0 0)]), (4, [ex (.int .i64 0), ex (.slice none 0 0), ex (.slice none 0 0)])]⟩) (Sub.mv 403 22 oM oM oM ⟨pK, pK, pM, ⟨_, rfl, aZF _ _, rfl, js0 rfl⟩, trivial⟩ ⟨BMv.toC rfl rfl (fun h => absurd h uG) oM oM rfl ⟨⟨PLe.refl _, inferInstance⟩, ⟨PLe.refl _, inferInstance⟩, ⟨PLe.refl _, inferInstance⟩, ⟨PLe.refl _, inferInstance⟩, ⟨PLe.refl _, inferInstance⟩, trivial⟩, bK, trivial⟩ rfl rfl) ?_
 refine kO ?_
 refine jr<|jm jj<|jm jj<|jm jj<|jS (aZe jj)<|jF jj jj<|jS (bZZ jj jj jj)<|RG.SW (LT.plain jj (cZ1 401 208 C3 tB (by intro i hi; omega) jj)) jj<|jS (aZe jj)<|jF jj jj<|jO (fZk jj jj jj (by simp) aG jj)<|jn<|js<|js<|jr<|jm jj<|jE jj<|jm jj<|jn<|jb ?_
 refine WpD.loop (α := {i : Nat // i ≤ n}) (fun i => ⟨[(0, .one (imt A n n)), (1, .one (ex (.int .i64 (p : Int)))), (4, .ptr 4 0), (6, .ptr 403 0), (33, .one (ex (.int .i64 (n : Int)))), (34, .one (ex (.int .i64 (i.1 : Int))))], (403, [ex (.int .i64 (p : Int)), ex (.int .i64 (m : Int)), ex (.int .i64 (k : Int)), ownP 401 0 n n, appP 701 1 i.1]) :: (4, [ex (.int .i64 0), ex (.slice none 0 0), ex (.slice none 0 0)]) :: (701, outL (owR 216 n) i.1) :: (951, []) :: (401, outL (owR 208 n) n) :: (rws 208 (aZy (remM A m) n n) ++ rws 216 (aZy idM i.1 n))⟩) (fun i => n - i.1) ⟨0, Nat.zero_le _⟩ ?_ ?_
 ·dsimp only
  refine Sub.mk ?_ ⟨.inl ⟨_, rfl, ⟨PLe.refl _, PLe.refl _, PLe.refl _, PLe.refl _, PLe.refl _, trivial⟩⟩, .inl pQ, .inr rfl, .inr rfl, .inl pQ, subBx.fam fFs (fun r _ => PsLe.refl _) ⟨.inr (aZo oM), .inr (aZo oM), .inr (aZo oM), .inr (aZo oM), .inr (aZo oM), .inr (aZo oM), .inr (aZo oM), .inr (aZo oM), trivial⟩⟩ (LKeep.all ⟨.inr (fun q hq => ?_), .inl rfl, .inr (fun q hq => by cases hq), .inl rfl, .inr (fun q hq => ?_), lkAll.fam rfl (lkAll.fam (l := []) rfl trivial)⟩)
  ·repeat (first | exact trivial | refine jv rfl ?_ | refine jw rfl (js0 rfl) ?_)
  ·simp only [List.mem_cons, List.not_mem_nil, or_false] at hq
   rcases hq with rfl | rfl | rfl | rfl | rfl
   ·exact bZH
   ·exact bZH
   ·exact bZH
   ·exact bZU (js0 rfl) uG
   ·exact jZG (js0 rfl) (js0 rfl)
  ·obtain ⟨a, ha, rfl⟩ := cZh hq
   exact bZU ((Fam.live (d := 208) fFs) a oM) uG
 rintro ⟨i, hi⟩
 dsimp only
 by_cases hin : i < n
 ·have ho : 0 + i * 1 < ((List.replicate n ([.int .i64 0].map ex)).flatten).length := by simp; omega
  refine js<|jr<|jS (bLt jj jj)<|jn<|js<|jt jj<|jp<|js<|jb<|js<|jr<|jm jj<|ja jj<|jn<|js<|jr<|jm jj<|jE jj<|jT (bZ7 jj jj jj jj oM jj jj)<|ja jj<|jn<|js<|jr<|jm jj<|jm jj<|jS (cZF jj jj aO jj)<|jO (aZK jj jj jj ho jj)<|jn ?_
  refine WpD.sub (τ := ⟨[(0, .one (imt A n n)), (1, .one (ex (.int .i64 (p : Int)))), (4, .ptr 4 0), (6, .ptr 403 0), (8, .own (216 + i) 0 n n), (33, .one (ex (.int .i64 (n : Int)))), (34, .one (ex (.int .i64 (i : Int))))], (403, [ex (.int .i64 (p : Int)), ex (.int .i64 (m : Int)), ex (.int .i64 (k : Int)), ownP 401 0 n n, appP 701 1 i]) :: (4, [ex (.int .i64 0), ex (.slice none 0 0), ex (.slice none 0 0)]) :: (701, outL (owR 216 n) i) :: (951, []) :: (401, outL (owR 208 n) n) :: (rws 208 (aZy (remM A m) n n) ++ rws 216 (aZy idM (i + 1) n))⟩) (Sub.mv (216 + i) 39 oM oM oM ⟨pK, pK, pM, pM, ⟨_, rfl, aZF _ _, rfl, rfl, rfl, (Fam.live (d := 216) fFs) i oM⟩, pK, pK, trivial⟩ ⟨BMv.cells rfl oM oM uG rfl ⟨PMv.flat (PLe.refl _), PMv.flat (PLe.refl _), PMv.flat (PLe.refl _), PMv.own (aZ7 oM oM) (js0 rfl) uG uG, PMv.app (aZ7 oM oM) (aZ7 oM oM) (js0 rfl) (js0 rfl), trivial⟩, bK, BMv.growL rfl oM oM oM rfl (PsMv.out (f := owR 216 n) (g := owR 216 n) fun a ha => PMv.own (aZ7 oM oM) ((Fam.live (d := 216) fFs) a oM) uG uG), .inl rfl, BMv.out rfl oM oM uG rfl (fun a ha => PMv.own (aZ7 oM oM) ((Fam.live (d := 208) fFs) a oM) uG uG), mvBx.famN (f := aZy (remM A m) n n) fFs oM oM (fun r _ => PsLe.refl _) (mvBx.fam (l := []) (fun r hr => ?_) trivial)⟩ rfl ?_) ?_
  ·by_cases h2 : r = i
   ·subst h2
    exact BMv.at (bZL oM) rfl uG oM oM rfl (PsLe.of (nZT hin))
   ·exact BMv.keep (bZL oM) oM oM uG ((show Fam _ 216 (aZy idM i n) from fFs) r hr) (PsLe.of (fZW r h2).symm)
  ·dsimp only
   rw [aZc, if_neg oM, aZc, if_neg oM, aZc, if_neg oM, aZc, if_neg oM, aZc, if_neg oM, bZV, if_neg oM, cZu, if_neg oM]; rfl
  refine kO ?_
  refine jr<|jm jj<|jm jj<|jS (aZe jj)<|jF jj jj<|jS (jZ0 jj jj jj (js0 jj) (js0 jj))<|jm jj<|RG.SW (LT.plain jj (hZu 732 jj uG jj jj jj)) jj<|RG.SW (LT.plain jj (fZV 733 jj jj (bZc _ _) jj jj oM jj jj jj jj jj jj jj)) jj<|jS (aZe jj)<|jF jj jj<|jO (dZV jj jj jj (by simp) jj jj)<|jn<|jr<|jS (bAd jj jj wO)<|jm jj<|jn ?_
  refine ⟨⟨i + 1, oM⟩, ?_, oD⟩
  dsimp only
  exact Sub.mv 701 733 oM oM oM ⟨pK, pK, pM, pM, pK, pK, trivial⟩ ⟨BMv.cells rfl oM oM uG rfl ⟨PMv.flat (PLe.refl _), PMv.flat (PLe.refl _), PMv.flat (PLe.refl _), PMv.own (aZ7 oM oM) (js0 rfl) uG uG, PMv.app (aZF _ _) (cZa _ _) (js0 rfl) (js0 rfl), trivial⟩, bK, BMv.atL rfl rfl (fun _ => by unfold grows; omega) oM oM rfl (PsMv.out (f := owR 216 n) (g := owR 216 n) (n := i + 1) fun a ha => PMv.own (aZ7 oM oM) ((Fam.live (d := 216) fFs) a oM) uG uG), .inl rfl, BMv.out rfl oM oM uG rfl (fun a ha => PMv.own (aZ7 oM oM) ((Fam.live (d := 208) fFs) a oM) uG uG), mvBx.famN (f := aZy (remM A m) n n) fFs oM oM (fun r _ => PsLe.refl _) (mvBx.famN (l := []) (f := aZy idM (i + 1) n) fFs oM oM (fun r _ => PsLe.refl _) trivial)⟩ rfl rfl
 ·have e : i = n := oM
  subst e
  have hP0 := Pm.id i
  refine js<|jr<|jS (bLf jj jj)<|jn<|js<|jf jj<|je ?_
  refine WpD.sub (τ := ⟨[(0, .one (imt A i i)), (1, .one (ex (.int .i64 (p : Int)))), (4, .ptr 4 0), (6, .ptr 403 0)], (4, [ex (.int .i64 0), ex (.slice none 0 0), ex (.slice none 0 0)]) :: sbx 403 401 208 402 216 (p : Int) (m : Int) (k : Int) i (fun i => i) (gM (fun i => i) (remM A m) i) (aZy idM i i)⟩) (Sub.mv 402 701 oM oM oM ⟨pK, pK, pM, pM, trivial⟩ ⟨bK, BMv.cells rfl oM oM uG rfl ⟨PMv.flat (PLe.refl _), PMv.flat (PLe.refl _), PMv.flat (PLe.refl _), PMv.own (aZ7 oM oM) (js0 rfl) uG uG, PMv.fix (aZF _ _) oM (js0 rfl) uG, trivial⟩, BMv.out (f := owR 208 i) (g := owR 208 i) rfl oM oM uG rfl (fun a ha => PMv.own (aZ7 oM oM) ((Fam.live (d := 208) fFs) a oM) uG uG), mvBx.famN (f := aZy (remM A m) i i) fFs oM oM (fun r _ => PsLe.refl _) ⟨BMv.atL rfl rfl (fun h => absurd h uG) oM oM rfl (PsMv.out (f := owR 216 i) (g := owR 216 i) (n := i) fun a ha => PMv.own (aZ7 oM oM) ((Fam.live (d := 216) fFs) a oM) uG uG), mvBx.famN (l := []) (f := aZy idM i i) fFs oM oM (fun r _ => PsLe.refl _) trivial⟩⟩ rfl rfl) ?_
  refine kO ?_
  refine jr<|jm jj<|jS (aZj (ps := [(_, _)]) ⟨jj, Part.c jj, trivial⟩ jj)<|jA jj jj jj<|jP jj jj jj jj<|jn<|js<|js<|jr<|ja jj<|jn<|jb ?_
  refine WpD.loop (α := {x : Nat × (Nat → Nat) × (Nat → Nat) // x.1 ≤ i ∧ Pm i x.2.1 x.2.2}) (fun x => ⟨[(0, .one (imt A i i)), (1, .one (ex (.int .i64 (p : Int)))), (4, .ptr 4 0), (6, .ptr 403 0), (9, .ptr 404 0), (10, .one (ex (.int .i64 (x.1.1 : Int))))], (404, [ex (.int .i64 (p : Int)), ex (.slice none 0 0), appP 501 5 x.1.1]) :: (4, [ex (.int .i64 0), ex (.slice none 0 0), ex (.slice none 0 0)]) :: (501, rowL (dcB p k m i (remM A m)) x.1.1) :: (751, []) :: sbx 403 401 208 402 216 (p : Int) (m : Int) (k : Int) i x.1.2.1 (gM x.1.2.2 (dcS p k m i (remM A m) x.1.1).1 i) (aZy (dcS p k m i (remM A m) x.1.1).2 i i)⟩) (fun x => i - x.1.1) ⟨(0, fun i => i, fun i => i), oM, hP0⟩ ?_ ?_
  ·dsimp only
   have h8 := hP0.lt8 (show i ≤ 8 by omega)
   exact Sub.mv 404 9 oM oM oM ⟨pK, pK, pM, pM, ⟨_, rfl, aZF _ _, rfl, js0 rfl⟩, pK, trivial⟩ ⟨BMv.toC rfl rfl (fun h => absurd h uG) oM oM rfl ⟨⟨PLe.refl _, inferInstance⟩, ⟨PLe.refl _, inferInstance⟩, ⟨PLe.refl _, (show Flat (ex (.slice none 0 0)) from inferInstance)⟩, trivial⟩, bK, .inl rfl, .inl rfl, mZp rfl rfl fFs rfl fFs (fun r _ => PsLe.refl _) (fun r _ => PsLe.refl _) aD oM oM oM (js0 rfl) (js0 rfl) (Fam.live fFs) (Fam.live fFs) oM h8⟩ rfl rfl
  rintro ⟨⟨r, π, σ⟩, hr, hP⟩
  dsimp only at hr hP ⊢
  have h8 := hP.lt8 (show i ≤ 8 by omega)
  by_cases hri : r < i
  ·obtain ⟨hX1, hX2⟩ := qZ9 (k := k) (p := p) hm1 hR (show r ≤ i by omega)
   have hS1 : dcS p k m i (remM A m) (r + 1) = oneM p k m i r (dcA p k m i r (dcS p k m i (remM A m) r)) := rfl
   have hB1 : rowL (dcB p k m i (remM A m)) (r + 1) = rowL (dcB p k m i (remM A m)) r ++ oneB p k m i r (dcA p k m i r (dcS p k m i (remM A m) r)) := rfl
   have hlen : (rowL (dcB p k m i (remM A m)) r).length = r * 5 := bZj fun c _ => nZh c
   generalize rowL (dcB p k m i (remM A m)) r = L at *
   generalize dcS p k m i (remM A m) r = x at *
   obtain ⟨x1, x2⟩ := x
   dsimp only at hX1 hX2 ⊢
   have hll := eZh (p := p) (k := k) (A := x1) hri
   have CL := hleast En p m k i r π σ x1 (aZy x2 i i) hP oM hri oM oM hm2 hX1
   have hA2 := qZA (p := p) (k := k) (x := (x1, x2)) (show 1 ≤ m by omega) hri ⟨hX1, hX2⟩
   have hA1 := nZj (p := p) (k := k) (r := r) (x := (x1, x2)) (show 1 ≤ m by omega) ⟨hX1, hX2⟩
   have hdA : dcA p k m i r (x1, x2) = (twM r (aZA p k i x1 r).1 (dcA1 p k m i r (x1, x2)).1, twC r (aZA p k i x1 r).1 i (dcA1 p k m i r (x1, x2)).2) := rfl
   have hP2 := hP.tw hri hll.1
   have h8' := hP2.lt8 (show i ≤ 8 by omega)
   have CO := hone En p m k i r _ _ (dcA p k m i r (x1, x2)).1 (dcA p k m i r (x1, x2)).2 hP2 oM hri oM oM hm hm2 hA2.1 hA2.2
   by_cases hab : (aZA p k i x1 r).1 = (aZA p k i x1 r).2
   ·have hd1 : dcA1 p k m i r (x1, x2) = (x1, x2) := if_pos hab
    have CW := hswap En p m k i r (aZA p k i x1 r).1 π σ x1 x2 hP oM hri hll.1
    rw [hd1] at hdA
    rw [hdA] at CO hS1 hB1
    have hc1 : ((((aZA p k i x1 r).1 : Nat) : Int) != (((aZA p k i x1 r).2 : Nat) : Int)) = false := bneF oM
    refine js<|js<|jr<|jm jj<|jm jj<|jE jj<|jS (bLt jj jj)<|jn<|jt jj<|jp<|jb<|js<|jr<|jm jj<|jm jj<|jS (bZx 403 401 208 402 216 CL ⟨⟨jj, Option.some_ne_none _⟩, jj, trivial⟩ jj jj fFs jj fFs oM aM) ?_
    refine jm jj<|jx' jj jj<|jx' jj jj<|ja jj<|ja jj<|jn<|js<|js<|jr<|jm jj<|jm jj<|jS (bVn jj jj hc1)<|jm jj<|jk<|jk<|jQ jj jj<|jn<|jf jj<|jp<|js<|js<|jr<|jm jj<|jm jj<|jS (bVn jj jj hc1)<|jn<|jf jj<|jp<|js<|jr<|jm jj<|jm jj<|jm jj<|RG.SW (LT.plain jj (cZR 403 401 208 402 216 CW ⟨⟨jj, Option.some_ne_none _⟩, jj, jj, trivial⟩ jj jj fFs jj fFs oM aM aM)) jj ?_
    refine jn<|js<|jr<|jF jj jj<|jS (jZ0 jj jj jj (js0 jj) (js0 jj))<|jm jj<|jm jj<|RG.SW (LT.plain jj (cZR 403 401 208 402 216 CO ⟨⟨jj, Option.some_ne_none _⟩, jj, trivial⟩ jj jj fFs jj fFs oM aM aM)) jj ?_
    refine jS (aZ5 (ps := [(_, _)]) ⟨jj, Part.c jj, trivial⟩ jj jj jj)<|RG.SW (LT.plain jj (aZD 609 jj jj hlen jj oM oM jj jj jj jj jj jj)) jj<|jF jj jj<|jO (dZV jj jj jj (by simp) jj jj)<|jn<|jr<|jm jj<|jS (bAd jj jj wO)<|ja jj<|jn ?_
    refine ⟨⟨(r + 1, _, _), oD, hP2⟩, ?_, oD⟩
    dsimp only
    rw [hS1, hB1]
    exact Sub.mv 501 609 oM oM oM ⟨pK, pK, pM, pM, pM, pK, trivial⟩ ⟨BMv.cells rfl oM oM uG rfl ⟨PMv.flat (PLe.refl _), PMv.flat (PLe.refl _), PMv.app (aZF _ _) (cZa _ _) (js0 rfl) (js0 rfl), trivial⟩, bK, BMv.at rfl rfl (fun _ => by unfold grows; omega) oM oM rfl (PsLe.refl _), .inl rfl, mZp rfl rfl fFs rfl fFs (fun _ _ => PsLe.refl _) (fun _ _ => PsLe.refl _) aD oM oM oM (js0 rfl) (js0 rfl) (Fam.live fFs) (Fam.live fFs) oM h8'⟩ rfl rfl
   ·have hd1 : dcA1 p k m i r (x1, x2) = (addM m 1 (aZA p k i x1 r).2 (aZA p k i x1 r).1 i x1, colA m 1 (aZA p k i x1 r).2 (aZA p k i x1 r).1 i x2) := if_neg hab
    have CA := hadd En p m k i (aZA p k i x1 r).2 (aZA p k i x1 r).1 1 π σ x1 x2 hP oM hll.2 hll.1 (fun e => hab e.symm) oM hm2 aD hX1 hX2
    have CW := hswap En p m k i r (aZA p k i x1 r).1 π σ (dcA1 p k m i r (x1, x2)).1 (dcA1 p k m i r (x1, x2)).2 hP oM hri hll.1
    rw [hdA] at CO hS1 hB1
    rw [hd1] at CW CO hS1 hB1
    have hc1 : ((((aZA p k i x1 r).1 : Nat) : Int) != (((aZA p k i x1 r).2 : Nat) : Int)) = true := bneT oM
    refine js<|js<|jr<|jm jj<|jm jj<|jE jj<|jS (bLt jj jj)<|jn<|jt jj<|jp<|jb<|js<|jr<|jm jj<|jm jj<|jS (bZx 403 401 208 402 216 CL ⟨⟨jj, Option.some_ne_none _⟩, jj, trivial⟩ jj jj fFs jj fFs oM aM) ?_
    refine jm jj<|jx' jj jj<|jx' jj jj<|ja jj<|ja jj<|jn<|js<|js<|jr<|jm jj<|jm jj<|jS (bVn jj jj hc1)<|jm jj (jgm jj (jg (bEf jj jj oM) (jq jj jj (jn (jf jj (jp (js (js (jr (jm jj (jm jj (jS (bVn jj jj hc1) (jn (jt jj (jr (jm jj (jm jj (jm jj (RG.SW (LT.plain jj (cZR 403 401 208 402 216 CA ⟨⟨jj, Option.some_ne_none _⟩, jj, jj, jj, trivial⟩ jj jj fFs jj fFs oM aM aM)) jj ?_)))))))))))))))))))
    refine jn<|js<|jr<|jm jj<|jm jj<|jm jj<|RG.SW (LT.plain jj (cZR 403 401 208 402 216 CW ⟨⟨jj, Option.some_ne_none _⟩, jj, jj, trivial⟩ jj jj fFs jj fFs oM aM aM)) jj ?_
    refine jn<|js<|jr<|jF jj jj<|jS (jZ0 jj jj jj (js0 jj) (js0 jj))<|jm jj<|jm jj<|RG.SW (LT.plain jj (cZR 403 401 208 402 216 CO ⟨⟨jj, Option.some_ne_none _⟩, jj, trivial⟩ jj jj fFs jj fFs oM aM aM)) jj ?_
    refine jS (aZ5 (ps := [(_, _)]) ⟨jj, Part.c jj, trivial⟩ jj jj jj)<|RG.SW (LT.plain jj (aZD 609 jj jj hlen jj oM oM jj jj jj jj jj jj)) jj<|jF jj jj<|jO (dZV jj jj jj (by simp) jj jj)<|jn<|jr<|jm jj<|jS (bAd jj jj wO)<|ja jj<|jn ?_
    refine ⟨⟨(r + 1, _, _), oD, hP2⟩, ?_, oD⟩
    dsimp only
    rw [hS1, hB1]
    exact Sub.mv 501 609 oM oM oM ⟨pK, pK, pM, pM, pM, pK, trivial⟩ ⟨BMv.cells rfl oM oM uG rfl ⟨PMv.flat (PLe.refl _), PMv.flat (PLe.refl _), PMv.app (aZF _ _) (cZa _ _) (js0 rfl) (js0 rfl), trivial⟩, bK, BMv.at rfl rfl (fun _ => by unfold grows; omega) oM oM rfl (PsLe.refl _), .inl rfl, mZp rfl rfl fFs rfl fFs (fun _ _ => PsLe.refl _) (fun _ _ => PsLe.refl _) aD oM oM oM (js0 rfl) (js0 rfl) (Fam.live fFs) (Fam.live fFs) oM h8'⟩ rfl rfl
  ·have e : r = i := oM
   subst e
   refine js<|js<|jr<|jm jj<|jm jj<|jE jj<|jS (bLf jj jj)<|jn<|jf jj<|je<|js<|jr<|jm jj<|jS (aZe jj)<|jF jj jj<|jS (aZx jj jj jj uG)<|jF jj jj<|jO (fZk jj jj jj (by simp) uG jj)<|jn ?_
   refine WpD.sub (τ := ⟨[(4, .ptr 4 0), (9, .ptr 9 0)], [(9, [ex (.int .i64 (p : Int)), anyC, slc 5 (rowL (dcB p k m r (remM A m)) r) r]), (4, [ex (.int .i64 0), ex (.slice none 0 0), ex (.slice none 0 0)])]⟩) (Sub.pubJ 404 9 501 inferInstance rfl rfl (bZj fun c _ => nZh c) oM oM oM oM rfl rfl rfl ⟨.inl ⟨⟨_, rfl, SLe.rfl' _⟩, js0 rfl, js0 rfl⟩, .inr ⟨_, rfl, rfl⟩, trivial⟩ ⟨.inl pQ, trivial⟩ (fun q ps h => ?_) rfl) ?_
   ·rw [aZc] at h
    split at h
    ·rename_i e; subst e; exact ⟨rfl, oM, oM⟩
    ·cases h
   refine kO ?_
   refine jr<|jL jj jj jj<|jP jj jj jj jj<|jn<|ji ?_
   exact rtC rfl jj jj
end
end
section
open Go.RowKit Limb Det Num
instance cbody137 : CBody Tryz.prog 137 := ⟨⟨_, Tryz.func137, rfl, by rfl⟩⟩
instance cbody79 : CBody Tryz.prog 79 := ⟨⟨_, Tryz.func79, rfl, by rfl⟩⟩
instance cbody31 : CBody Tryz.prog 31 := ⟨⟨_, Tryz.func31, rfl, by rfl⟩⟩
instance cbody10 : CBody Tryz.prog 10 := ⟨⟨_, Tryz.func10, rfl, by rfl⟩⟩
section
variable (En : Ev)
theorem hwell (e p : Nat) (a : Int) (he : e ≤ 60) (hp : 2 ≤ p) (ha : a.tmod (p : Int) ≠ 0) : Fn Tryz.prog En 137 [aggP (blkP e a), ex (.int .i64 (p : Int))] (ex (.bool true)) := by
 have hp0 : (p : Int) ≠ 0 := oM
 unfold blkP
 refine aZb Tryz.func137 rfl Tryz.ntmps137 rfl ?_
 intro w0 h0
 refine js<|jr<|jB jj jj jj<|ja jj<|jn<|js<|js<|jr<|jF jj jj<|jl jj jj jj<|jS (bLf jj jj)<|jm jj (jgf jj jj (jgl jj jj jj (jg (bGf jj jj) (jQ jj jj (jn (jf jj (jp (js (js (jr (jF jj jj (jl jj jj jj (jS (bEt jj jj) (jn (jt jj (js (jr (jF jj jj (jl jj jj jj (jm jj (jS (aZ6 jj jj (fun w => cZz w _ _ _ _ _ _ aW)) (jS (bNt jj jj) (jm jj (jgf jj jj (jgl jj jj jj (jg (bEt jj jj) (jq jj jj (jm jj (jgf jj jj (jgl jj jj jj (jg (bEt jj jj) (jq jj jj (ja jj (jn ?_))))))))))))))))))))))))))))))))))
 refine ji ?_
 exact rtT rfl jj
theorem hlisted (E : Nat → Nat) (a : Nat → Int) (n p : Nat) (hn : 1 ≤ n) (hn8 : n ≤ 8) (hp : 2 ≤ p) (hE : ∀ i, i < n → E i ≤ 60) (hs : ∀ i, i + 1 < n → E i ≤ E (i + 1)) (ha : ∀ i, i < n → (a i).tmod (p : Int) ≠ 0) : Fn Tryz.prog En 79 [slc 5 (rowL (fun i => blkP (E i) (a i)) n) n, ex (.int .i64 (p : Int))] (ex (.bool true)) := by
 have hrow : ∀ i, i < n → ((rowL (fun i => blkP (E i) (a i)) n).drop (i * 5)).take 5 = blkP (E i) (a i) := fun i hi => bZT (fun _ _ => rfl) hi
 generalize hL : rowL (fun i => blkP (E i) (a i)) n = L at *
 refine aZb Tryz.func79 rfl Tryz.ntmps79 rfl ?_
 intro w0 h0
 refine js<|jr<|ja jj<|jn<|js<|jr<|ja jj<|jn<|js<|js<|jr<|jm jj<|jE jj<|jm jj<|jn<|jb ?_
 refine WpD.loop (α := {i : Nat // i ≤ n}) (fun i => ⟨[(0, .one (slc 5 L n)), (1, .one (ex (.int .i64 (p : Int)))), (5, .one (ex (.int .i64 (i.1 : Int)))), (8, .one (slc 5 L n)), (9, .one (ex (.int .i64 (n : Int)))), (10, .one (ex (.int .i64 (i.1 : Int))))], []⟩) (fun i => n - i.1) ⟨0, Nat.zero_le _⟩ ?_ ?_
 ·dsimp only
  exact Sub.mk sJ sJ
 rintro ⟨i, hi⟩
 dsimp only
 by_cases hin : i < n
 ·have C1 := hwell En (E i) p (a i) (hE i hin) hp (ha i hin)
  have hr1 := hrow i hin
  by_cases h0 : i = 0
  ·refine js<|jr<|jS (bLt jj jj)<|jn<|js<|jt jj<|jp<|js<|jb<|js<|jr<|jm jj<|jS (aZm jj jj aO aM)<|jS (aZq jj jj jj)<|jA jj jj jj<|ja jj<|jP jj jj jj jj<|jn<|js<|js<|jr<|jm jj<|jS (bHf jj jj)<|jm jj<|jg (bZ8 jj jj jj jj) (jgm jj (jg (aZa C1 ⟨jj, jj, trivial⟩) (jg (bNo jj) (jQ jj jj (jm jj (jgm jj (jg (bGf jj jj) (jgm jj (jk (jk (jk (jk (jk (jk (jk (jk (jk (jg (cZT jj jj) (jQ jj jj (jn ?_))))))))))))))))))))
   refine jf jj<|jp<|jr<|jm jj<|jF jj jj<|jl jj jj jj<|jS (bAd jj jj wO)<|ja jj<|jn<|jr<|jS (bAd jj jj wO)<|jm jj<|jn ?_
   refine ⟨⟨i + 1, oM⟩, ?_, oD⟩
   dsimp only
   exact Sub.mk sJ sJ
  ·have hr2 := hrow (i - 1) oM
   have hse := hs (i - 1) oM
   rw [show i - 1 + 1 = i by omega] at hse
   have e1 : IntKind.i64.wrap ((i : Int) - 1) = ((i - 1 : Nat) : Int) := by rw [w64 oM oM]; omega
   refine js<|jr<|jS (bLt jj jj)<|jn<|js<|jt jj<|jp<|js<|jb<|js<|jr<|jm jj<|jS (aZm jj jj aO aM)<|jS (aZq jj jj jj)<|jA jj jj jj<|ja jj<|jP jj jj jj jj<|jn<|js<|js<|jr<|jm jj<|jS (bHf jj jj)<|jm jj<|jg (bZ8 jj jj jj jj) (jgm jj (jg (aZa C1 ⟨jj, jj, trivial⟩) (jg (bNo jj) (jQ jj jj (jm jj (jgm jj (jg (bGt jj jj) (jgm jj (jgf jj jj (jgl jj jj jj (jgm jj (jgm jj (jg (bSu jj jj e1) (jg (aZm jj jj aO aM) (jg (eZC jj jj) (jg (aZh jj jj) (jg (bLf jj jj) (jg (dZj jj jj) (jQ jj jj (jn ?_))))))))))))))))))))
   refine jf jj<|jp<|jr<|jm jj<|jF jj jj<|jl jj jj jj<|jS (bAd jj jj wO)<|ja jj<|jn<|jr<|jS (bAd jj jj wO)<|jm jj<|jn ?_
   refine ⟨⟨i + 1, oM⟩, ?_, oD⟩
   dsimp only
   exact Sub.mk sJ sJ
 ·have e : i = n := oM
  subst e
  refine js<|jr<|jS (bLf jj jj)<|jn<|js<|jf jj<|je<|js<|jr<|jm jj<|jS (bHt jj jj)<|jm jj (jgm jj (jg (bMt jj jj) (jq jj jj (ja jj (jn (ji ?_))))))
  exact rtT rfl jj
end
end
end Go.Proofs.YtfmjdlogjmofbaaGreatDoor

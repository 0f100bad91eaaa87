/- The constituents of a decomposition at an odd prime. (With LT.skipU.) -/
import Derived.Test.YtfmjdlogjmofbaaGreatDoorMem
import Derived.Test.YtfmjdlogjmofbaaGreatDoorHg
import Derived.Test.YtfmjdlogjmofbaaGreatDoorCs
import Derived.Test.YtfmjdlogjmofbaaGreatDoorW
set_option maxRecDepth 3000
namespace Go.Proofs.YtfmjdlogjmofbaaGreatDoor
section
open Go.RowKit Limb Det Num
theorem gZ8 {e : Nat → List Pd} {k o : Nat} {q : Pd} : ∀ {m c : Nat}, (∀ c, c < m → (e c).length = k) → c < m → o < k → (rowL e m).set (c * k + o) q = rowL (fun j => if j = c then (e c).set o q else e j) m
 | 0, _, _, h, _ => oM
 | m + 1, c, h, hc, ho => by
  have hl := bZj (e := e) (k := k) (m := m) fun c hc => h c oM
  rw [rowL, rowL, List.set_append]
  by_cases e1 : c = m
  ·subst e1
   rw [if_neg oM, hl, Nat.add_sub_cancel_left, if_pos rfl]
   congr 1
   exact aZG fun j hj => by rw [if_neg oM]
  ·have h2 : c * k + k ≤ m * k := by rw [← Nat.succ_mul]; exact Nat.mul_le_mul_right _ oM
   rw [if_pos oM, if_neg (fun h => e1 h.symm), gZ8 (fun c hc => h c oM) oM ho]
theorem gZA {e : Nat → List Pd} {k o m c : Nat} {q : Pd} (h : ∀ c, c < m → (e c).length = k) (hc : c < m) (ho : o < k) (hq : (e c)[o]? = some q) : (rowL e m)[c * k + o]? = some q := by
 have h1 := congrArg (fun l => l[o]?) (bZT (e := e) (k := k) (m := m) (c := c) h hc)
 simp only [List.getElem?_take, List.getElem?_drop, if_pos ho] at h1
 rw [h1]; exact hq
theorem dZU (f : Nat → List Pd) : ∀ n, rows f n = rowL f n
 | 0 => rfl
 | n + 1 => by rw [dZT, rowL, dZU f n]
def cU (g : Nat → Co) (i : Nat) (c : Co) : Nat → Co := fun j => if j = i then c else g j
abbrev CS := (Nat → Co) × Nat
def cs1 (E : Nat) (x : CS) : CS := if x.2 = 0 ∨ (x.1 (x.2 - 1)).e ≠ (E : Int) then (cU x.1 x.2 ⟨(E : Int), 0, 1, false, 0⟩, x.2 + 1) else x
def cs2 (l : Int) (y : CS) : CS := (cU y.1 (y.2 - 1) ⟨(y.1 (y.2 - 1)).e, (y.1 (y.2 - 1)).d + 1, (y.1 (y.2 - 1)).s * l, (y.1 (y.2 - 1)).o, (y.1 (y.2 - 1)).y⟩, y.2)
def csF (E : Nat → Nat) (a : Nat → Int) (p : Nat) : Nat → CS
 | 0 => (fun _ => ⟨0, 0, 1, false, 0⟩, 0)
 | i + 1 => cs2 (legZ (a i) p) (cs1 (E i) (csF E a p i))
structure CsB (i : Nat) (x : CS) : Prop where
 n : x.2 ≤ i
 d : ∀ j, j < x.2 → 0 ≤ (x.1 j).d ∧ (x.1 j).d ≤ (i : Int)
 s : ∀ j, j < x.2 → -1 ≤ (x.1 j).s ∧ (x.1 j).s ≤ 1
theorem CsB.one {i E : Nat} {x : CS} (h : CsB i x) : 0 < (cs1 E x).2 ∧ (cs1 E x).2 ≤ i + 1 ∧ (∀ j, j < (cs1 E x).2 → 0 ≤ ((cs1 E x).1 j).d ∧ ((cs1 E x).1 j).d ≤ (i : Int)) ∧ ∀ j, j < (cs1 E x).2 → -1 ≤ ((cs1 E x).1 j).s ∧ ((cs1 E x).1 j).s ≤ 1 := by
 have h1 := h.n
 unfold cs1
 by_cases c : x.2 = 0 ∨ (x.1 (x.2 - 1)).e ≠ (E : Int)
 ·rw [if_pos c]
  refine ⟨Nat.succ_pos _, oD, fun j hj => ?_, fun j hj => ?_⟩
  ·dsimp only at hj ⊢
   unfold cU
   by_cases e : j = x.2
   ·rw [if_pos e]; exact ⟨Int.le_refl 0, oD⟩
   ·rw [if_neg e]; exact h.d j oM
  ·dsimp only at hj ⊢
   unfold cU
   by_cases e : j = x.2
   ·rw [if_pos e]; exact ⟨by dsimp only; omega, oD⟩
   ·rw [if_neg e]; exact h.s j oM
 ·rw [if_neg c]
  exact ⟨oM, oM, h.d, h.s⟩
theorem qZt (a : Int) (p : Nat) : -1 ≤ legZ a p ∧ legZ a p ≤ 1 := by
 unfold legZ
 rcases hZP (a % (p : Int)).toNat p with h | h | h <;> rw [h] <;> decide
theorem lZB {x y : Int} (hx : -1 ≤ x ∧ x ≤ 1) (hy : -1 ≤ y ∧ y ≤ 1) : -1 ≤ x * y ∧ x * y ≤ 1 := by
 rcases (show x = -1 ∨ x = 0 ∨ x = 1 by omega) with h | h | h <;> subst h <;> omega
theorem qZH (E : Nat → Nat) (a : Nat → Int) (p : Nat) : ∀ i, CsB i (csF E a p i)
 | 0 => ⟨Nat.le_refl 0, fun j hj => absurd hj (by show ¬ j < 0; omega), fun j hj => absurd hj (by show ¬ j < 0; omega)⟩
 | i + 1 => by
  obtain ⟨h1, h2, h3, h4⟩ := (qZH E a p i).one (E := E i)
  refine ⟨h2, fun j hj => ?_, fun j hj => ?_⟩
  ·have hj : j < (cs1 (E i) (csF E a p i)).2 := hj
   show 0 ≤ (cU _ _ _ j).d ∧ (cU _ _ _ j).d ≤ _
   unfold cU
   by_cases e : j = (cs1 (E i) (csF E a p i)).2 - 1
   ·rw [if_pos e]
    have := h3 ((cs1 (E i) (csF E a p i)).2 - 1) oM
    dsimp only
    omega
   ·rw [if_neg e]
    have := h3 j hj
    omega
  ·have hj : j < (cs1 (E i) (csF E a p i)).2 := hj
   show -1 ≤ (cU _ _ _ j).s ∧ (cU _ _ _ j).s ≤ _
   unfold cU
   by_cases e : j = (cs1 (E i) (csF E a p i)).2 - 1
   ·rw [if_pos e]
    exact lZB (h4 ((cs1 (E i) (csF E a p i)).2 - 1) oM) (qZt _ _)
   ·rw [if_neg e]; exact h4 j hj
theorem rZd (g : Nat → Co) (i : Nat) (c : Co) (n : Nat) : rowL (fun j => if j = i then coc c else ccs g j) n = rowL (ccs (cU g i c)) n := aZG fun j _ => by
 unfold ccs cU
 by_cases e : j = i
 ·rw [if_pos e, if_pos e]
 ·rw [if_neg e, if_neg e]
theorem cU_cU (g : Nat → Co) (i : Nat) (c c' : Co) : cU (cU g i c) i c' = cU g i c' := by
 funext j
 unfold cU
 split <;> rfl
theorem pZC {g : Nat → Co} {i n : Nat} (hi : i < n) (d : Int) : (rowL (ccs g) n).set (i * 5 + 1) (ex (.int .i64 d)) = rowL (ccs (cU g i ⟨(g i).e, d, (g i).s, (g i).o, (g i).y⟩)) n := by
 rw [gZ8 (e := ccs g) (k := 5) (fun _ _ => rfl) hi oM]
 exact rZd g i ⟨(g i).e, d, (g i).s, (g i).o, (g i).y⟩ n
theorem pZB {g : Nat → Co} {i n : Nat} (hi : i < n) (s : Int) : (rowL (ccs g) n).set (i * 5 + 2) (ex (.int .i64 s)) = rowL (ccs (cU g i ⟨(g i).e, (g i).d, s, (g i).o, (g i).y⟩)) n := by
 rw [gZ8 (e := ccs g) (k := 5) (fun _ _ => rfl) hi oM]
 exact rZd g i ⟨(g i).e, (g i).d, s, (g i).o, (g i).y⟩ n
theorem kZu (g : Nat → Co) (c : Nat) (x : Co) : rowL (ccs (cU g c x)) (c + 1) = rowL (ccs g) c ++ coc x := by
 rw [rowL, aZG (e' := ccs g) fun j hj => by unfold ccs cU; rw [if_neg oM]]
 congr 1
 unfold ccs cU
 rw [if_pos rfl]
section
variable (En : Ev)
set_option maxHeartbeats 1000000 in
theorem gZR (E : Nat → Nat) (a : Nat → Int) (n p : Nat) (hn : 1 ≤ n) (hn8 : n ≤ 8) (hp : smP (p : Int) = true) (h3 : 3 ≤ p) (hp2 : p ≤ 9973) (hE : ∀ i, i < n → E i ≤ 60) (hs : ∀ i, i + 1 < n → E i ≤ E (i + 1)) (ha : ∀ i, i < n → (a i).tmod (p : Int) ≠ 0) : Fn Tryz.prog En 31 [aggP [ex (.int .i64 (p : Int)), anyC, slc 5 (rowL (fun i => blkP (E i) (a i)) n) n]] (tupP [slc 5 (rowL (ccs (csF E a p n).1) (csF E a p n).2) (csF E a p n).2, ex (.bool true)]) := by
 have C1 := rodd En (p : Int) hp oM
 have C2 := hlisted En E a n p hn hn8 oM hE hs ha
 have hrow : ∀ i, i < n → ((rowL (fun i => blkP (E i) (a i)) n).drop (i * 5)).take 5 = blkP (E i) (a i) := fun i hi => bZT (fun _ _ => rfl) hi
 generalize hL : rowL (fun i => blkP (E i) (a i)) n = L at *
 refine aZb Tryz.func31 rfl Tryz.ntmps31 rfl ?_
 intro w0 h0
 refine js<|jr<|jB jj jj jj<|ja jj<|ja jj<|jn<|js<|js<|jr<|jF jj jj<|jl jj jj jj<|jS (aZa C1 tA)<|jS (bNo jj)<|jm jj (jgf jj jj (jgl jj jj jj (jgf jj jj (jgl jj jj jj (jg (aZa C2 tB) (jg (bNo jj) (jQ jj jj (jn (jf jj (jp (js (jr (ja jj (jn (js (js (jr (jF jj jj (jl jj jj jj (jE jj (jm jj (jn (jb ?_)))))))))))))))))))))))
 refine WpD.loop (α := {i : Nat // i ≤ n}) (fun i => ⟨[(1, .ptr 1 0), (4, .app 501 5 (csF E a p i.1).2), (21, .one (slc 5 L n)), (22, .one (ex (.int .i64 (n : Int)))), (23, .one (ex (.int .i64 (i.1 : Int))))], [(1, [ex (.int .i64 (p : Int)), anyC, slc 5 L n]), (501, rowL (ccs (csF E a p i.1).1) (csF E a p i.1).2), (751, [])]⟩) (fun i => n - i.1) ⟨0, Nat.zero_le _⟩ ?_ ?_
 ·dsimp only
  exact Sub.mk sJ sJ
 rintro ⟨i, hi⟩
 dsimp only
 have hB := qZH E a p i
 have hx1 : csF E a p (i + 1) = cs2 (legZ (a i) p) (cs1 (E i) (csF E a p i)) := rfl
 by_cases hin : i < n
 ·generalize csF E a p i = x at *
  obtain ⟨g, c⟩ := x
  dsimp only at hB ⊢
  have hr1 := hrow i hin
  refine js<|jr<|jS (bLt jj jj)<|jn<|js<|jt jj<|jp<|js<|jb<|js<|jr<|jS (aZm jj jj aO aM)<|jS (aZq jj jj jj)<|jA jj jj jj<|jP jj jj jj jj<|jn ?_
  refine WpD.cut (α := Unit) (fun _ => ⟨[(1, .ptr 1 0), (4, .app 501 5 (cs1 (E i) (g, c)).2), (6, .ptr 6 0), (21, .one (slc 5 L n)), (22, .one (ex (.int .i64 (n : Int)))), (23, .one (ex (.int .i64 (i : Int))))], [(1, [ex (.int .i64 (p : Int)), anyC, slc 5 L n]), (6, blkP (E i) (a i)), (501, rowL (ccs (cs1 (E i) (g, c)).1) (cs1 (E i) (g, c)).2), (751, [])]⟩) ?_ ?_
  ·have hlen : (rowL (ccs g) c).length = c * 5 := bZj fun _ _ => rfl
   have hcn := hB.n
   dsimp only at hcn
   by_cases h0 : c = 0
   ·have hcs : cs1 (E i) (g, c) = (cU g c ⟨(E i : Int), 0, 1, false, 0⟩, c + 1) := if_pos (.inl h0)
    rw [hcs]
    refine kO ?_
    refine jr<|jm jj<|jS (cZQ jj CSlice.ok)<|jS (bEt jj jj)<|jm jj<|jk<|jk<|jk<|jk<|jk<|jk<|jk<|jk<|jk<|jk<|jq jj jj<|jn<|jt jj<|jr<|jm jj<|jF jj jj<|jl jj jj jj<|jS (aZj (ps := [(_, _), (_, _)]) ⟨jj, Part.c jj, jj, Part.c jj, trivial⟩ jj)<|jS (aZ5 (ps := [(_, _)]) ⟨jj, Part.c jj, trivial⟩ jj jj jj)<|RG.SW (LT.plain jj (aZD 547 jj jj hlen jj oM oM jj jj jj jj jj jj)) jj<|ja jj<|jn ?_
    refine ⟨(), ?_⟩
    dsimp only
    exact Sub.mv 501 547 oM oM oM ⟨pM, ⟨_, rfl, aZF _ _, cZa _ _, rfl, rfl, js0 rfl, js0 rfl⟩, pM, pK, pK, pK, trivial⟩ ⟨bK, bK, BMv.at rfl rfl (fun _ => by unfold grows; omega) oM oM rfl (PsLe.of (kZu g c ⟨(E i : Int), 0, 1, false, 0⟩).symm), .inl rfl, trivial⟩ rfl rfl
   ·have e1 : IntKind.i64.wrap ((c : Int) - 1) = ((c - 1 : Nat) : Int) := by rw [w64 oM oM]; omega
    have hq0 : (rowL (ccs g) c)[(c - 1) * 5 + 0]? = some (ex (.int .i64 (g (c - 1)).e)) := gZA (fun _ _ => rfl) oM oM rfl
    by_cases he : (g (c - 1)).e = (E i : Int)
    ·have hcs : cs1 (E i) (g, c) = (g, c) := if_neg (by rintro (h | h); exact h0 h; exact h he)
     rw [hcs]
     refine kO ?_
     refine jr<|jm jj<|jS (cZQ jj CSlice.ok)<|jS (bEf jj jj)<|jm jj (jgm jj (jgm jj (jg (cZQ jj CSlice.ok) (jg (bSu jj jj e1) (jg (dZi jj jj aO jj) (jgf jj jj (jg (aZ9 jj jj aM) (jgf jj jj (jgl jj jj jj (jg (bNf jj jj) (jQ jj jj (jn (jf jj (jp ?_))))))))))))))
     refine ⟨(), ?_⟩
     dsimp only
     exact Sub.mk sJ sJ
    ·have hcs : cs1 (E i) (g, c) = (cU g c ⟨(E i : Int), 0, 1, false, 0⟩, c + 1) := if_pos (.inr he)
     rw [hcs]
     refine kO ?_
     refine jr<|jm jj<|jS (cZQ jj CSlice.ok)<|jS (bEf jj jj)<|jm jj (jgm jj (jgm jj (jg (cZQ jj CSlice.ok) (jg (bSu jj jj e1) (jg (dZi jj jj aO jj) (jgf jj jj (jg (aZ9 jj jj aM) (jgf jj jj (jgl jj jj jj (jg (bNt jj jj) (jQ jj jj (jn (jt jj (jr (jm jj (jF jj jj (jl jj jj jj (jS (aZj (ps := [(_, _), (_, _)]) ⟨jj, Part.c jj, jj, Part.c jj, trivial⟩ jj) (jS (aZ5 (ps := [(_, _)]) ⟨jj, Part.c jj, trivial⟩ jj jj jj) (RG.SW (LT.plain jj (aZD 547 jj jj hlen jj oM oM jj jj jj jj jj jj)) jj (ja jj (jn ?_))))))))))))))))))))))
     refine ⟨(), ?_⟩
     dsimp only
     exact Sub.mv 501 547 oM oM oM ⟨pM, ⟨_, rfl, aZF _ _, cZa _ _, rfl, rfl, js0 rfl, js0 rfl⟩, pM, pK, pK, pK, trivial⟩ ⟨bK, bK, BMv.at rfl rfl (fun _ => by unfold grows; omega) oM oM rfl (PsLe.of (kZu g c ⟨(E i : Int), 0, 1, false, 0⟩).symm), .inl rfl, trivial⟩ rfl rfl
  rintro ⟨⟩
  obtain ⟨k1, k2, k3, k4⟩ := hB.one (E := E i)
  generalize cs1 (E i) (g, c) = y at *
  obtain ⟨g1, c1⟩ := y
  dsimp only at k1 k2 k3 k4 ⊢
  have d1 := k3 (c1 - 1) oM
  have s1 := k4 (c1 - 1) oM
  have hlb := qZt (a i) p
  have hsb := lZB s1 hlb
  have hc8 : c1 - 1 < c1 := oM
  have hl1 : (rowL (ccs g1) c1).length = c1 * 5 := bZj fun _ _ => rfl
  have hq1 : (rowL (ccs g1) c1)[(c1 - 1) * 5 + 1]? = some (ex (.int .i64 (g1 (c1 - 1)).d)) := gZA (fun _ _ => rfl) hc8 oM rfl
  have hk1 : (c1 - 1) * 5 + 1 < (rowL (ccs g1) c1).length := oM
  have hr2 := pZC (g := g1) hc8 ((g1 (c1 - 1)).d + 1)
  have e1 : IntKind.i64.wrap ((c1 : Int) - 1) = ((c1 - 1 : Nat) : Int) := by rw [w64 oM oM]; omega
  have e2 : IntKind.i64.wrap ((g1 (c1 - 1)).d + 1) = (g1 (c1 - 1)).d + 1 := w64 oM oM
  have e3 : IntKind.i64.wrap ((g1 (c1 - 1)).s * legZ (a i) p) = (g1 (c1 - 1)).s * legZ (a i) p := w64 oM oM
  have C3 := jleg En (a i) p oM oM
  have hfin : cs2 (legZ (a i) p) (g1, c1) = (cU g1 (c1 - 1) ⟨(g1 (c1 - 1)).e, (g1 (c1 - 1)).d + 1, (g1 (c1 - 1)).s * legZ (a i) p, (g1 (c1 - 1)).o, (g1 (c1 - 1)).y⟩, c1) := rfl
  rw [hfin] at hx1
  have hG : cU g1 (c1 - 1) ⟨(g1 (c1 - 1)).e, (g1 (c1 - 1)).d + 1, (g1 (c1 - 1)).s * legZ (a i) p, (g1 (c1 - 1)).o, (g1 (c1 - 1)).y⟩ = cU (cU g1 (c1 - 1) ⟨(g1 (c1 - 1)).e, (g1 (c1 - 1)).d + 1, (g1 (c1 - 1)).s, (g1 (c1 - 1)).o, (g1 (c1 - 1)).y⟩) (c1 - 1) ⟨(g1 (c1 - 1)).e, (g1 (c1 - 1)).d + 1, (g1 (c1 - 1)).s * legZ (a i) p, (g1 (c1 - 1)).o, (g1 (c1 - 1)).y⟩ := (cU_cU ..).symm
  have hg2 : (cU g1 (c1 - 1) ⟨(g1 (c1 - 1)).e, (g1 (c1 - 1)).d + 1, (g1 (c1 - 1)).s, (g1 (c1 - 1)).o, (g1 (c1 - 1)).y⟩) (c1 - 1) = ⟨(g1 (c1 - 1)).e, (g1 (c1 - 1)).d + 1, (g1 (c1 - 1)).s, (g1 (c1 - 1)).o, (g1 (c1 - 1)).y⟩ := if_pos rfl
  rw [hG] at hx1
  generalize cU g1 (c1 - 1) ⟨(g1 (c1 - 1)).e, (g1 (c1 - 1)).d + 1, (g1 (c1 - 1)).s, (g1 (c1 - 1)).o, (g1 (c1 - 1)).y⟩ = g2 at *
  have hl2 : (rowL (ccs g2) c1).length = c1 * 5 := bZj fun _ _ => rfl
  have hq2 : (rowL (ccs g2) c1)[(c1 - 1) * 5 + 2]? = some (ex (.int .i64 (g1 (c1 - 1)).s)) := gZA (fun _ _ => rfl) hc8 oM (by show (coc (g2 (c1 - 1)))[2]? = _; rw [hg2]; rfl)
  have hk2 : (c1 - 1) * 5 + 2 < (rowL (ccs g2) c1).length := oM
  have hr3 := pZB (g := g2) hc8 ((g1 (c1 - 1)).s * legZ (a i) p)
  rw [hg2] at hr3
  dsimp only at hr3
  refine kO ?_
  refine jr<|jm jj<|jm jj<|jS (cZQ jj CSlice.ok)<|jS (bSu jj jj e1)<|jS (dZi jj jj aO jj)<|ja jj<|jn<|js<|jr<|jm jj<|jS (aZe jj)<|jF jj jj<|jS (aZ9 jj jj aM)<|jS (bAd jj jj e2)<|jS (aZe jj)<|jF jj jj<|jO (aZK jj jj jj aM aM)<|jn<|jr<|jm jj<|jS (aZe jj)<|jF jj jj<|jS (aZ9 jj jj aM)<|jF jj jj<|jl jj jj jj<|jF jj jj<|jl jj jj jj<|jS (aZa C3 tB)<|jS (bMu jj jj e3)<|jS (aZe jj)<|jF jj jj<|jO (aZK jj jj jj aM aM)<|jn<|jr<|jS (bAd jj jj wO)<|jm jj<|jn ?_
  refine ⟨⟨i + 1, oM⟩, ?_, oD⟩
  dsimp only
  rw [hx1]
  dsimp only
  exact Sub.mk sJ sJ
 ·have e : i = n := oM
  subst e
  refine js<|jr<|jS (bLf jj jj)<|jn<|js<|jf jj<|je ?_
  refine WpD.sub (τ := ⟨[(4, .one (slc 5 (rowL (ccs (csF E a p i).1) (csF E a p i).2) (csF E a p i).2))], []⟩) (Sub.pub 501 rfl rfl ⟨.inr (.inr (.inl ⟨_, _, _, rfl, rfl, bZj fun _ _ => rfl, PLe.refl _⟩)), trivial⟩ trivial rfl) ?_
  refine kO ?_
  refine jr<|jm jj<|ja jj<|ja jj<|jn<|ji ?_
  exact ret2 rfl (.tmp rfl) (.tmp rfl) (PLe.refl _)
end
end
section
open Go.RowKit Limb Det Num
def dcE (p k m n : Nat) (A : Nat → Nat → Int) (r : Nat) : Nat := vlZ p k ((dcA p k m n r (dcS p k m n A r)).1 r r)
def dcU (p k m n : Nat) (A : Nat → Nat → Int) (r : Nat) : Int := (dcS p k m n A (r + 1)).1 r r / (pvQ p k (dcA p k m n r (dcS p k m n A r)).1 r : Int)
structure DcOK (p k m n : Nat) (A : Nat → Nat → Int) : Prop where
 e : ∀ i, i < n → dcE p k m n A i ≤ 60
 up : ∀ i, i + 1 < n → dcE p k m n A i ≤ dcE p k m n A (i + 1)
 u : ∀ i, i < n → (dcU p k m n A i).tmod (p : Int) ≠ 0
section
variable (En : Ev)
theorem hof (A : Nat → Nat → Int) (n p k m : Nat) (hF : Fm n A) (hp : smP (p : Int) = true) (h3 : 3 ≤ p) (hp2 : p ≤ 1000) (hk : k = dgs (det n A) p) (hm : m = p ^ k) (hm2 : m ≤ 2147483648) (hD : DcOK p k m n (remM A m)) : Fn Tryz.prog En 10 [imt A n n, ex (.int .i64 (p : Int))] (locP (p : Int) (csF (dcE p k m n (remM A m)) (dcU p k m n (remM A m)) p n).1 (csF (dcE p k m n (remM A m)) (dcU p k m n (remM A m)) p n).2) := by
 have C1 := kZW En A n p k m hF h3 hp2 hk hm hm2
 have C2 := gZR En (dcE p k m n (remM A m)) (dcU p k m n (remM A m)) n p hF.n1 (by have := hF.n7; omega) hp h3 oM hD.e hD.up hD.u
 unfold locP
 rw [dZU]
 generalize (csF (dcE p k m n (remM A m)) (dcU p k m n (remM A m)) p n).2 = c at *
 generalize (csF (dcE p k m n (remM A m)) (dcU p k m n (remM A m)) p n).1 = g at *
 refine aZb Tryz.func10 rfl Tryz.ntmps10 rfl ?_
 intro w0 h0
 refine js<|jr<|jA jj jj jj<|jn<|js<|jr<|jm jj<|jm jj<|jS (aZa C1 tB)<|jS (aZa C2 tA)<|jm jj<|jx' jj jj<|jx' jj jj<|ja jj<|ja jj<|jn<|js<|jr<|jm jj<|jm jj<|jS (aZj (ps := [(_, _), (_, _)]) ⟨jj, Part.c jj, jj, Part.c jj, trivial⟩ jj)<|jP jj jj jj jj<|jn<|ji ?_
 exact rtC rfl jj jj
end
end
section
open Go.RowKit Limb Det Num
def Mo (m a b : Int) : Prop := m ∣ a - b
theorem Mo.refl (m a : Int) : Mo m a a := ⟨0, oM⟩
theorem Mo.of {m a b : Int} (h : a = b) : Mo m a b := h ▸ Mo.refl m a
theorem Mo.symm {m a b : Int} (h : Mo m a b) : Mo m b a := by obtain ⟨k, hk⟩ := h; exact ⟨-k, by grind⟩
theorem Mo.trans {m a b c : Int} (h : Mo m a b) (h2 : Mo m b c) : Mo m a c := by obtain ⟨k, hk⟩ := h; obtain ⟨l, hl⟩ := h2; exact ⟨k + l, by grind⟩
theorem Mo.add {m a b c d : Int} (h : Mo m a b) (h2 : Mo m c d) : Mo m (a + c) (b + d) := by obtain ⟨k, hk⟩ := h; obtain ⟨l, hl⟩ := h2; exact ⟨k + l, by grind⟩
theorem Mo.mul {m a b c d : Int} (h : Mo m a b) (h2 : Mo m c d) : Mo m (a * c) (b * d) := by obtain ⟨k, hk⟩ := h; obtain ⟨l, hl⟩ := h2; exact ⟨k * c + b * l, by grind⟩
theorem Mo.mod (m a : Int) : Mo m (a % m) a := ⟨-(a / m), by have := Int.emod_add_mul_ediv a m; grind⟩
theorem Mo.emod {m a b : Int} (h : Mo m a b) : a % m = b % m := by
 obtain ⟨k, hk⟩ := h
 rw [show a = b + m * k by omega, Int.add_mul_emod_self_left]
theorem Mo.sm {m : Int} {f g : Nat → Int} : ∀ {n : Nat}, (∀ i, i < n → Mo m (f i) (g i)) → Mo m (Det.sm f n) (Det.sm g n)
 | 0, _ => Mo.refl _ _
 | n + 1, h => (Mo.sm fun i hi => h i oM).add (h n oM)
theorem gZZ {m : Int} : ∀ {n : Nat} {M N : Mx}, (∀ r c, r < n → c < n → Mo m (M r c) (N r c)) → Mo m (det n M) (det n N)
 | 0, _, _, _ => Mo.refl _ _
 | n + 1, M, N, h => Mo.sm fun i hi => ((Mo.refl m (sg i)).mul (h i 0 hi oM)).mul (gZZ fun r c hr hc => h _ _ (iZu hr) oM)
theorem pZb {m n i j : Nat} {c : Int} {A : Nat → Nat → Int} (hi : i < n) (hj : j < n) (hij : i ≠ j) : Mo m (det n (colA m c i j n A)) (det n A) := by
 have h1 : det n (fun r x => if x = j then A r j + c * A r i else A r x) = 1 * det n A := det_cop (k := j) (l := i) (x := 1) (y := c) hj hi (fun e => hij e.symm) (fun r _ => by rw [if_pos rfl]; omega) (fun r x _ _ hx => by rw [if_neg hx])
 rw [Int.one_mul] at h1
 rw [← h1]
 refine gZZ fun r x hr _ => ?_
 unfold colA
 by_cases e : x = j
 ·rw [if_pos ⟨hr, e⟩, if_pos e]; exact Mo.mod _ _
 ·rw [if_neg fun h => e h.2, if_neg e]; exact Mo.refl _ _
theorem pZa {m n i j : Nat} {c : Int} {A : Nat → Nat → Int} (hi : i < n) (hj : j < n) (hij : i ≠ j) : Mo m (det n (rowA m c i j n A)) (det n A) := by
 have h1 : det n (fun r x => if r = j then A j x + c * A i x else A r x) = 1 * det n A := kZo (k := j) (l := i) (x := 1) (y := c) hj hi (fun e => hij e.symm) (fun x _ => by rw [if_pos rfl]; omega) (fun r x _ _ hr => by rw [if_neg hr])
 rw [Int.one_mul] at h1
 rw [← h1]
 refine gZZ fun r x _ hx => ?_
 unfold rowA
 by_cases e : r = j
 ·rw [if_pos ⟨e, hx⟩, if_pos e]; exact Mo.mod _ _
 ·rw [if_neg fun h => e h.1, if_neg e]; exact Mo.refl _ _
theorem pZc {m n i j : Nat} {c : Int} {A : Nat → Nat → Int} (hi : i < n) (hj : j < n) (hij : i ≠ j) : Mo m (det n (addM m c i j n A)) (det n A) := (pZa hi hj hij).trans (pZb hi hj hij)
theorem det_twM {n i j : Nat} {A : Nat → Nat → Int} (hi : i < n) (hj : j < n) : det n (twM i j A) = det n A := by
 by_cases hij : i = j
 ·subst hij
  have e : ∀ r, tw i i r = r := fun r => by unfold tw; split <;> omega
  exact aZJ fun r c _ _ => by unfold twM; rw [e, e]
 ·have h1 : det n (twM i j A) = - det n (fun r x => A r (tw i j x)) := eZX hi hj hij (fun c _ => by unfold twM tw; simp) (fun c _ => by unfold twM tw; simp only [if_true]; rw [if_neg (fun e => hij e.symm)]) (fun r c _ _ h1 h2 => by unfold twM tw; rw [if_neg h1, if_neg h2])
  have h2 : det n (fun r x => A r (tw i j x)) = - det n A := iZf hi hj hij (fun r _ => by unfold tw; simp) (fun r _ => by unfold tw; simp only [if_true]; rw [if_neg (fun e => hij e.symm)]) (fun r c _ _ h1 h2 => by unfold tw; rw [if_neg h1, if_neg h2])
  rw [h1, h2, Int.neg_neg]
def Sy (n : Nat) (A : Nat → Nat → Int) : Prop := ∀ r x, r < n → x < n → A r x = A x r
theorem dZu {m n i j : Nat} {c : Int} {A : Nat → Nat → Int} (hi : i < n) {r x : Nat} (hr : r < n) (hx : x < n) : addM m c i j n A r x = if r = j then (if x = j then ((A j j + c * A j i) % (m : Int) + c * ((A i j + c * A i i) % (m : Int))) % (m : Int) else (A j x + c * A i x) % (m : Int)) else (if x = j then (A r j + c * A r i) % (m : Int) else A r x) := by
 unfold addM rowA colA
 by_cases h1 : r = j
 ·rw [if_pos ⟨h1, hx⟩, if_pos h1]
  by_cases h2 : x = j
  ·subst h2
   rw [if_pos ⟨oM, rfl⟩, if_pos ⟨oM, rfl⟩, if_pos rfl]
  ·rw [if_neg fun h => h2 h.2, if_neg fun h => h2 h.2, if_neg h2]
 ·rw [if_neg fun h => h1 h.1, if_neg h1]
  by_cases h2 : x = j
  ·rw [if_pos ⟨hr, h2⟩, if_pos h2]
  ·rw [if_neg fun h => h2 h.2, if_neg h2]
theorem Sy.addM {m n i j : Nat} {c : Int} {A : Nat → Nat → Int} (h : Sy n A) (hi : i < n) (hj : j < n) : Sy n (addM m c i j n A) := fun r x hr hx => by
 rw [dZu hi hr hx, dZu hi hx hr]
 by_cases h1 : r = j
 ·by_cases h2 : x = j
  ·rw [h1, h2]
  ·rw [if_pos h1, if_neg h2, if_neg h2, if_pos h1, h x j hx hj, h x i hx hi]
 ·by_cases h2 : x = j
  ·rw [if_neg h1, if_pos h2, if_pos h2, if_neg h1, h r j hr hj, h r i hr hi]
  ·rw [if_neg h1, if_neg h2, if_neg h2, if_neg h1, h r x hr hx]
theorem Sy.twM {n i j : Nat} {A : Nat → Nat → Int} (h : Sy n A) (hi : i < n) (hj : j < n) : Sy n (twM i j A) := fun _ _ hr hx => h _ _ (gZy hi hj hr) (gZy hi hj hx)
end
section
open Go.RowKit Limb Det Num
section
variable {v : Int → Nat} {A : Nat → Nat → Int}
theorem qZh (ab : Nat × Nat) (i j : Nat) : v (A (lsS v A ab i j).1 (lsS v A ab i j).2) ≤ v (A ab.1 ab.2) ∧ v (A (lsS v A ab i j).1 (lsS v A ab i j).2) ≤ v (A i j) := by
 unfold lsS
 split
 ·exact ⟨by dsimp only; omega, Nat.le_refl _⟩
 ·exact ⟨Nat.le_refl _, oM⟩
theorem lsS_or (ab : Nat × Nat) (i j : Nat) : lsS v A ab i j = ab ∨ v (A (lsS v A ab i j).1 (lsS v A ab i j).2) < v (A ab.1 ab.2) := by
 unfold lsS
 split
 ·exact .inr oD
 ·exact .inl rfl
theorem qZp : ∀ (f i : Nat) (ab : Nat × Nat), v (A (lsD v A f i ab).1 (lsD v A f i ab).2) ≤ v (A ab.1 ab.2) ∧ ∀ t, i ≤ t → t < i + f → v (A (lsD v A f i ab).1 (lsD v A f i ab).2) ≤ v (A t t)
 | 0, _, _ => ⟨Nat.le_refl _, fun t _ _ => oM⟩
 | f + 1, i, ab => by
  obtain ⟨h1, h2⟩ := qZp f (i + 1) (lsS v A ab i i)
  obtain ⟨h3, h4⟩ := qZh (v := v) (A := A) ab i i
  refine ⟨Nat.le_trans h1 h3, fun t ht1 ht2 => ?_⟩
  by_cases e : t = i
  ·subst e; exact Nat.le_trans h1 h4
  ·exact h2 t oM oM
theorem jZU : ∀ (f i : Nat) (ab : Nat × Nat), ab.1 = ab.2 → (lsD v A f i ab).1 = (lsD v A f i ab).2
 | 0, _, _, h => h
 | f + 1, i, ab, h => jZU f (i + 1) _ (by unfold lsS; split; rfl; exact h)
theorem qZq (r : Nat) : ∀ (f i : Nat) (ab : Nat × Nat), r ≤ i → r ≤ ab.1 ∧ r ≤ ab.2 → r ≤ (lsD v A f i ab).1 ∧ r ≤ (lsD v A f i ab).2
 | 0, _, _, _, h => h
 | f + 1, i, ab, hi, h => qZq r f (i + 1) _ oM (by unfold lsS; split; exact ⟨hi, hi⟩; exact h)
theorem mZ4 (i : Nat) : ∀ (f j : Nat) (ab : Nat × Nat), v (A (lsR v A i f j ab).1 (lsR v A i f j ab).2) ≤ v (A ab.1 ab.2) ∧ ∀ t, j ≤ t → t < j + f → v (A (lsR v A i f j ab).1 (lsR v A i f j ab).2) ≤ v (A i t)
 | 0, _, _ => ⟨Nat.le_refl _, fun t _ _ => oM⟩
 | f + 1, j, ab => by
  obtain ⟨h1, h2⟩ := mZ4 i f (j + 1) (lsS v A ab i j)
  obtain ⟨h3, h4⟩ := qZh (v := v) (A := A) ab i j
  refine ⟨Nat.le_trans h1 h3, fun t ht1 ht2 => ?_⟩
  by_cases e : t = j
  ·subst e; exact Nat.le_trans h1 h4
  ·exact h2 t oM oM
theorem qZi (i : Nat) : ∀ (f j : Nat) (ab : Nat × Nat), lsR v A i f j ab = ab ∨ v (A (lsR v A i f j ab).1 (lsR v A i f j ab).2) < v (A ab.1 ab.2)
 | 0, _, _ => .inl rfl
 | f + 1, j, ab => by
  have h1 := (mZ4 (v := v) (A := A) i f (j + 1) (lsS v A ab i j)).1
  rcases lsS_or (v := v) (A := A) ab i j with h | h
  ·show lsR v A i f (j + 1) (lsS v A ab i j) = ab ∨ _
   rw [show lsR v A i (f + 1) j ab = lsR v A i f (j + 1) (lsS v A ab i j) from rfl, h]
   exact qZi i f (j + 1) ab
  ·exact .inr (Nat.lt_of_le_of_lt h1 h)
theorem qZk (r i : Nat) (hi : r ≤ i) : ∀ (f j : Nat) (ab : Nat × Nat), r ≤ j → r ≤ ab.1 ∧ r ≤ ab.2 → r ≤ (lsR v A i f j ab).1 ∧ r ≤ (lsR v A i f j ab).2
 | 0, _, _, _, h => h
 | f + 1, j, ab, hj, h => qZk r i hi f (j + 1) _ oM (by unfold lsS; split; exact ⟨hi, hj⟩; exact h)
theorem mZ5 : ∀ (f i : Nat) (ab : Nat × Nat), v (A (lsO v A f i ab).1 (lsO v A f i ab).2) ≤ v (A ab.1 ab.2) ∧ ∀ t s, i ≤ t → t < s → s < i + f → v (A (lsO v A f i ab).1 (lsO v A f i ab).2) ≤ v (A t s)
 | 0, _, _ => ⟨Nat.le_refl _, fun t s _ _ _ => oM⟩
 | f + 1, i, ab => by
  obtain ⟨h1, h2⟩ := mZ5 f (i + 1) (lsR v A i f (i + 1) ab)
  obtain ⟨h3, h4⟩ := mZ4 (v := v) (A := A) i f (i + 1) ab
  refine ⟨Nat.le_trans h1 h3, fun t s ht hts hs => ?_⟩
  by_cases e : t = i
  ·subst e; exact Nat.le_trans h1 (h4 s oM oM)
  ·exact h2 t s oM hts oM
theorem qZl : ∀ (f i : Nat) (ab : Nat × Nat), lsO v A f i ab = ab ∨ v (A (lsO v A f i ab).1 (lsO v A f i ab).2) < v (A ab.1 ab.2)
 | 0, _, _ => .inl rfl
 | f + 1, i, ab => by
  have h1 := (mZ5 (v := v) (A := A) f (i + 1) (lsR v A i f (i + 1) ab)).1
  rcases qZi (v := v) (A := A) i f (i + 1) ab with h | h
  ·rw [show lsO v A (f + 1) i ab = lsO v A f (i + 1) (lsR v A i f (i + 1) ab) from rfl, h]
   exact qZl f (i + 1) ab
  ·exact .inr (Nat.lt_of_le_of_lt h1 h)
theorem qZn (r : Nat) : ∀ (f i : Nat) (ab : Nat × Nat), r ≤ i → r ≤ ab.1 ∧ r ≤ ab.2 → r ≤ (lsO v A f i ab).1 ∧ r ≤ (lsO v A f i ab).2
 | 0, _, _, _, h => h
 | f + 1, i, ab, hi, h => qZn r f (i + 1) _ oM (qZk r i hi f (i + 1) ab oM h)
end
theorem iZE {p k n r : Nat} {A : Nat → Nat → Int} (hr : r < n) : (r ≤ (aZA p k n A r).1 ∧ r ≤ (aZA p k n A r).2) ∧
  (∀ t, r ≤ t → t < n → vlZ p k (A (aZA p k n A r).1 (aZA p k n A r).2) ≤ vlZ p k (A t t)) ∧ (∀ t s, r ≤ t → t < s → s < n → vlZ p k (A (aZA p k n A r).1 (aZA p k n A r).2) ≤ vlZ p k (A t s)) ∧
  ((aZA p k n A r).1 ≠ (aZA p k n A r).2 → ∀ t, r ≤ t → t < n → vlZ p k (A (aZA p k n A r).1 (aZA p k n A r).2) < vlZ p k (A t t)) := by
 obtain ⟨h1, h2⟩ := qZp (v := vlZ p k) (A := A) (n - r) r (r, r)
 obtain ⟨h3, h4⟩ := mZ5 (v := vlZ p k) (A := A) (n - r) r (lsD (vlZ p k) A (n - r) r (r, r))
 have h5 := qZl (v := vlZ p k) (A := A) (n - r) r (lsD (vlZ p k) A (n - r) r (r, r))
 have h6 := jZU (v := vlZ p k) (A := A) (n - r) r (r, r) rfl
 have h7 := qZq (v := vlZ p k) (A := A) r (n - r) r (r, r) (Nat.le_refl r) ⟨Nat.le_refl r, Nat.le_refl r⟩
 have h8 := qZn (v := vlZ p k) (A := A) r (n - r) r _ (Nat.le_refl r) h7
 refine ⟨h8, fun t ht1 ht2 => Nat.le_trans h3 (h2 t ht1 oM), fun t s ht hts hs => h4 t s ht hts oM, fun hne t ht1 ht2 => ?_⟩
 rcases h5 with h | h
 ·exfalso
  apply hne
  show (lsO (vlZ p k) A (n - r) r (lsD (vlZ p k) A (n - r) r (r, r))).1 = (lsO (vlZ p k) A (n - r) r (lsD (vlZ p k) A (n - r) r (r, r))).2
  rw [h]; exact h6
 ·exact Nat.lt_of_lt_of_le h (h2 t ht1 oM)
structure RI (m n r : Nat) (d : Int) (G : Nat → Nat → Int) : Prop where
 mb : MB n m G
 sy : Sy n G
 dt : Mo (m : Int) (det n G) d
 zr : ∀ i x, i < r → x < n → x ≠ i → G i x = 0
theorem RI.addM {m n r i j : Nat} {d c : Int} {G : Nat → Nat → Int} (h : RI m n r d G) (hm : 1 ≤ m) (hi : i < n) (hj : j < n) (hij : i ≠ j) (hri : r ≤ i) (hrj : r ≤ j) : RI m n r d (addM m c i j n G) := by
 refine ⟨h.mb.addM hm c i j, h.sy.addM hi hj, (pZc hi hj hij).trans h.dt, fun a x ha hx hne => ?_⟩
 rw [dZu hi oM hx, if_neg oM]
 by_cases e : x = j
 ·rw [if_pos e, h.zr a j ha hj oM, h.zr a i ha hi oM]; simp
 ·rw [if_neg e]; exact h.zr a x ha hx hne
theorem RI.twM {m n r a : Nat} {d : Int} {G : Nat → Nat → Int} (h : RI m n r d G) (hr : r < n) (ha : a < n) (hra : r ≤ a) : RI m n r d (twM r a G) := by
 refine ⟨h.mb.twM hr ha, h.sy.twM hr ha, by rw [det_twM hr ha]; exact h.dt, fun i x hi hx hne => ?_⟩
 have e1 : tw r a i = i := by unfold tw; rw [if_neg oM, if_neg oM]
 show G (tw r a i) (tw r a x) = 0
 rw [e1]
 refine h.zr i _ hi (gZy hr ha hx) fun e => hne ?_
 have := congrArg (tw r a) e
 rwa [nZU, e1] at this
end
section
open Go.RowKit Limb Det Num
theorem vl_zero {p : Nat} : vlZ p 1 0 = 1 := rfl
theorem pZL {p : Nat} {x : Int} (h0 : 0 ≤ x) (hp : x < p) (hx : x ≠ 0) : vlZ p 1 x = 0 := by
 unfold vlZ valN
 rw [if_neg oM]
 exact dZs fun h => by
  have := Nat.mod_eq_of_lt (show x.toNat < p by omega)
  omega
theorem vl_of {p : Nat} {x : Int} (h0 : 0 ≤ x) (hp : x < p) : (vlZ p 1 x = 0 ↔ x ≠ 0) ∧ vlZ p 1 x ≤ 1 := by
 by_cases h : x = 0
 ·subst h; rw [vl_zero]; omega
 ·rw [pZL h0 hp h]; omega
theorem oZZ {n r : Nat} {M : Mx} (hr : r < n) (h : ∀ x, x < n → M r x = 0) : det n M = 0 := by
 have := cZA (A := M) (B := M) (C := M) (k := r) (x := 0) (y := 0) hr (fun c hc => by rw [h c hc]; omega) (fun _ _ _ _ _ => rfl) (fun _ _ _ _ _ => rfl)
 omega
theorem kZL {p r j : Nat} {u k : Int} {G : Nat → Nat → Int} (hu : u * G r r = 1 + k * (p : Int)) : (G r j + oneC p r 1 u j G * G r r) % (p : Int) = 0 := by
 unfold oneC
 rw [Nat.div_one]
 have e : G r j / ((1 : Nat) : Int) = G r j := Int.ediv_one _
 rw [e]
 have h1 : Mo (p : Int) ((G r j * u) % (p : Int)) (G r j * u) := Mo.mod _ _
 obtain ⟨l, hl⟩ := h1
 have h2 : Mo (p : Int) (G r j + -(G r j * u % (p : Int)) * G r r) 0 := ⟨-(l * G r r) - G r j * k, by grind⟩
 have := h2.emod
 rwa [Int.zero_emod] at this
theorem fZY {p n r : Nat} {d u k : Int} (hp : 1 ≤ p) (hr : r < n) : ∀ {f j : Nat} {x : MM}, j + f = n → r < j → RI p n r d x.1 → u * x.1 r r = 1 + k * (p : Int) → (∀ y, r < y → y < j → x.1 r y = 0) →
  RI p n r d (oneL p n r 1 u f j x).1 ∧ (oneL p n r 1 u f j x).1 r r = x.1 r r ∧ (∀ y, r < y → y < n → (oneL p n r 1 u f j x).1 r y = 0) ∧ ∀ i, i < r → (oneL p n r 1 u f j x).1 i i = x.1 i i
 | 0, j, x, hj, hrj, h, _, hz => ⟨h, rfl, fun y h1 h2 => hz y h1 oM, fun _ _ => rfl⟩
 | f + 1, j, x, hj, hrj, h, hu, hz => by
  have hjn : j < n := oM
  have g : RI p n r d (addM p (oneC p r 1 u j x.1) r j n x.1) := h.addM hp hr hjn oM (Nat.le_refl r) oM
  have er : ∀ y, y < n → y ≠ j → addM p (oneC p r 1 u j x.1) r j n x.1 r y = x.1 r y := fun y hy hne => by rw [dZu hr hr hy, if_neg oM, if_neg hne]
  have ej : addM p (oneC p r 1 u j x.1) r j n x.1 r j = 0 := by rw [dZu hr hr hjn, if_neg oM, if_pos rfl]; exact kZL hu
  obtain ⟨a1, a2, a3, a4⟩ := fZY hp hr (f := f) (j := j + 1) (x := (addM p (oneC p r 1 u j x.1) r j n x.1, colA p (oneC p r 1 u j x.1) r j n x.2)) oM oM g (by dsimp only; rw [er r hr oM]; exact hu) (fun y h1 h2 => by
   dsimp only
   by_cases e : y = j
   ·subst e; exact ej
   ·rw [er y oM e]; exact hz y h1 oM)
  dsimp only at a2 a4
  refine ⟨a1, a2.trans (er r hr oM), a3, fun i hi => (a4 i hi).trans ?_⟩
  rw [dZu hr oM oM, if_neg oM, if_neg oM]
theorem RI.next {p n r : Nat} {d : Int} {G : Nat → Nat → Int} (h : RI p n r d G) (hr : r < n) (hz : ∀ y, r < y → y < n → G r y = 0) : RI p n (r + 1) d G := by
 refine ⟨h.mb, h.sy, h.dt, fun i x hi hx hne => ?_⟩
 by_cases e : i = r
 ·subst e
  rcases Nat.lt_or_gt_of_ne hne with h1 | h1
  ·rw [h.sy i x hr hx]; exact h.zr x i h1 hr oM
  ·exact hz x h1 hx
 ·exact h.zr i x oM hx hne
theorem nZi {p n r : Nat} {d : Int} {x : MM} (h : RI p n r d x.1) (hp : 3 ≤ p) (hodd : p % 2 = 1) (hr : r < n) (hd : ¬ (p : Int) ∣ d) : RI p n r d (dcA p 1 p n r x).1 ∧ (dcA p 1 p n r x).1 r r ≠ 0 ∧ ∀ i, i < r → (dcA p 1 p n r x).1 i i = x.1 i i := by
 obtain ⟨⟨ha, hb⟩, s1, s2, s3⟩ := iZE (p := p) (k := 1) (A := x.1) hr
 obtain ⟨han, hbn⟩ := eZh (p := p) (k := 1) (A := x.1) hr
 have tws : ∀ (a : Nat) (G : Nat → Nat → Int) i, i < r → r ≤ a → twM r a G i i = G i i := fun a G i hi hra => by
  have e1 : tw r a i = i := by unfold tw; rw [if_neg oM, if_neg oM]
  show G (tw r a i) (tw r a i) = _
  rw [e1]
 have twr : ∀ (a : Nat) (G : Nat → Nat → Int), twM r a G r r = G a a := fun a G => by
  have e1 : tw r a r = a := by unfold tw; rw [if_pos rfl]
  show G (tw r a r) (tw r a r) = _
  rw [e1]
 have V : ∀ i j, i < n → j < n → (vlZ p 1 (x.1 i j) = 0 ↔ x.1 i j ≠ 0) ∧ vlZ p 1 (x.1 i j) ≤ 1 := fun i j hi hj => vl_of (h.mb i j hi hj).1 (h.mb i j hi hj).2
 have hA : (dcA p 1 p n r x).1 = twM r (aZA p 1 n x.1 r).1 (dcA1 p 1 p n r x).1 := rfl
 rw [hA]
 unfold dcA1
 generalize (aZA p 1 n x.1 r).1 = a at *
 generalize (aZA p 1 n x.1 r).2 = b at *
 by_cases hab : a = b
 ·subst hab
  rw [if_pos rfl]
  refine ⟨h.twM hr han ha, ?_, fun i hi => tws a _ i hi ha⟩
  rw [twr]
  intro h0
  have v1 : vlZ p 1 (x.1 a a) = 1 := by rw [h0]; rfl
  rw [v1] at s1 s2
  apply hd
  have hz : det n x.1 = 0 := oZZ hr fun y hy => by
   have zero : ∀ i j, i < n → j < n → 1 ≤ vlZ p 1 (x.1 i j) → x.1 i j = 0 := fun i j hi hj hv => by
    by_cases e : x.1 i j = 0
    ·exact e
    ·have := (V i j hi hj).1.2 e; omega
   rcases Nat.lt_trichotomy y r with e | e | e
   ·rw [h.sy r y hr hy]; exact h.zr y r e hr oM
   ·subst e; exact zero y y hy hy (s1 y (Nat.le_refl y) hy)
   ·exact zero r y hr hy (s2 r y (Nat.le_refl r) e hy)
  have hm := h.dt
  rw [hz] at hm
  obtain ⟨k, hk⟩ := hm
  exact ⟨-k, by grind⟩
 ·rw [if_neg hab]
  dsimp only
  have q1 := s3 hab
  have vab := V a b han hbn
  have z : ∀ t, r ≤ t → t < n → x.1 t t = 0 := fun t ht1 ht2 => by
   by_cases e : x.1 t t = 0
   ·exact e
   ·have := (V t t ht2 ht2).1.2 e
    have := q1 t ht1 ht2
    omega
  have nab : x.1 a b ≠ 0 := vab.1.1 (by have := q1 a ha han; have := (V a a han han).2; omega)
  refine ⟨(h.addM oM hbn han (fun e => hab e.symm) hb ha).twM hr han ha, ?_, fun i hi => ?_⟩
  ·rw [twr, dZu hbn han han, if_pos rfl, if_pos rfl, z a ha han, z b hb hbn, h.sy b a hbn han]
   have hb2 := h.mb a b han hbn
   generalize x.1 a b = g at *
   have e1 : (0 + 1 * g) % (p : Int) = g := by rw [Int.zero_add, Int.one_mul]; exact Int.emod_eq_of_lt hb2.1 hb2.2
   have e2 : (g + 1 * 0) % (p : Int) = g := by rw [Int.mul_zero, Int.add_zero]; exact Int.emod_eq_of_lt hb2.1 hb2.2
   rw [e1, e2, Int.one_mul]
   intro h0
   obtain ⟨t, ht⟩ := Int.dvd_of_emod_eq_zero h0
   have t1 : t = 1 := by
    rcases Int.lt_or_le t 1 with h1 | h1
    ·have : (p : Int) * t ≤ p * 0 := Int.mul_le_mul_of_nonneg_left oM oM
     omega
    ·rcases Int.lt_or_le 1 t with h2 | h2
     ·have : (p : Int) * 2 ≤ p * t := Int.mul_le_mul_of_nonneg_left oM oM
      omega
     ·omega
   subst t1
   omega
  ·rw [tws a _ i hi ha, dZu hbn oM oM, if_neg oM, if_neg oM]
end
end Go.Proofs.YtfmjdlogjmofbaaGreatDoor

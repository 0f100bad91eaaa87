/- Signs that walk: the canonical symbol is accepted, and its species and mass are those of the raw one. Plain. -/
import Derived.Test.YtdieokoenhncfaaGreatDoorWk
import Derived.Test.YtdieokoenhncfaaGreatDoorSt
set_option maxRecDepth 3000
namespace Go.Proofs.YtdieokoenhncfaaGreatDoor
open Go.RowKit Limb Num
theorem comp_like {f g : Nat → Co} (h : Like f g) (n : Nat) : comp g n = comp f n := by
 unfold comp
 have h1 : (fun i => (g i).o) = fun i => (f i).o := funext h.o
 have h2 : nextE g = nextE f := by
  funext i
  exact decide_eq_decide.2 (by rw [h.e, h.e])
 rw [h1, h2]
theorem cof_self : ∀ {G : List (List Nat)} {i : Nat}, cof G i ≠ [] → i ∈ cof G i
 | [], _, h => absurd rfl h
 | g :: G, i, h => by
  rw [cof] at h ⊢
  split
  ·assumption
  ·rename_i hn
   rw [if_neg hn] at h
   exact cof_self h
theorem comp_both {f : Nat → Co} {n i : Nat} {γ : List Nat} (hγ : γ ∈ comp f n) (h0 : 0 < i) (h1 : i ∈ γ) (h2 : i - 1 ∈ γ) : (f i).e = (f (i - 1)).e + 1 := by
 have hr : Run (nextE f) γ := allG_run _ hγ
 have ha := asc_group (comp_asc f n) hγ
 obtain ⟨a, ha1, e1⟩ := List.getElem_of_mem h2
 obtain ⟨b, hb1, e2⟩ := List.getElem_of_mem h1
 have hab : a < b := by
  rcases Nat.lt_trichotomy a b with h | h | h
  ·exact h
  ·subst h; omega
  ·have := List.pairwise_iff_getElem.1 ha b a hb1 ha1 h; omega
 obtain ⟨r1, r2⟩ := hr a (by omega)
 have g1 : γ.getD a 0 = i - 1 := by simp [List.getD, List.getElem?_eq_getElem ha1, e1]
 rw [r1, g1, show i - 1 + 1 = i by omega] at r2
 exact of_decide_eq_true r2
theorem tuy_y (g : Nat → Co) (x j : Nat) : (tuy g x j).y = if j = x then ((g j).y + 4) % 8 else (g j).y := by
 unfold tuy
 split
 ·rename_i e; subst e; rfl
 ·rfl
theorem tuy_s (g : Nat → Co) (x j : Nat) : (tuy g x j).s = (g j).s := by
 unfold tuy
 split
 ·rename_i e; subst e; rfl
 ·rfl
theorem tus_s (g : Nat → Co) (x j : Nat) : (tus g x j).s = if j = x then -(g j).s else (g j).s := by
 unfold tus
 split
 ·rename_i e; subst e; rfl
 ·rfl
theorem stp_s {f : Nat → Co} {n i : Nat} (h0 : 0 < i) (j : Nat) : (stp f n i j).s = if j = i ∨ j = i - 1 then -(f j).s else (f j).s := by
 have h : (tus (tus f i) (i - 1) j).s = if j = i ∨ j = i - 1 then -(f j).s else (f j).s := by
  rw [tus_s, tus_s]
  by_cases a : j = i
  ·rw [if_neg (by omega), if_pos a, if_pos (.inl a)]
  ·by_cases b : j = i - 1
   ·rw [if_pos b, if_neg a, if_pos (.inr b)]
   ·rw [if_neg b, if_neg a, if_neg (by omega)]
 unfold stp
 split
 ·rw [tuy_s]
  split
  ·rw [tuy_s]; exact h
  ·exact h
 ·split
  ·rw [tuy_s]; exact h
  ·exact h
theorem stp_y {f : Nat → Co} {n i : Nat} (j : Nat) : (stp f n i j).y = if (0 < (cof (comp f n) (i - 1)).length ∧ (cof (comp f n) (i - 1)).getD 0 0 = j) ∨ (0 < (cof (comp f n) i).length ∧ (cof (comp f n) i).getD 0 0 = j) then ((f j).y + 4) % 8 else (f j).y := by
 have h : (tus (tus f i) (i - 1) j).y = (f j).y := by rw [tus_y, tus_y]
 unfold stp
 generalize cof (comp f n) (i - 1) = P at *
 generalize cof (comp f n) i = Q at *
 generalize tus (tus f i) (i - 1) = g at *
 have hP : (if 0 < P.length then tuy g (P.getD 0 0) else g) j = if 0 < P.length then tuy g (P.getD 0 0) j else g j := by split <;> rfl
 have hPy : ((if 0 < P.length then tuy g (P.getD 0 0) else g) j).y = if 0 < P.length ∧ P.getD 0 0 = j then ((f j).y + 4) % 8 else (f j).y := by
  rw [hP]
  by_cases a : 0 < P.length
  ·rw [if_pos a, tuy_y, h]
   by_cases b : j = P.getD 0 0
   ·rw [if_pos b, if_pos ⟨a, b.symm⟩]
   ·rw [if_neg b, if_neg (fun q => b q.2.symm)]
  ·rw [if_neg a, if_neg (fun q => a q.1), h]
 generalize (if 0 < P.length then tuy g (P.getD 0 0) else g) = g1 at *
 by_cases c : 0 < Q.length ∧ (P.length = 0 ∨ P.getD 0 0 ≠ Q.getD 0 0)
 ·rw [if_pos c, tuy_y, hPy]
  by_cases b : j = Q.getD 0 0
  ·have hn : ¬ (0 < P.length ∧ P.getD 0 0 = j) := fun q => by
    rcases c.2 with z | z
    ·have := q.1; omega
    ·exact z (q.2.trans b)
   rw [if_pos b, if_neg hn, if_pos (.inr ⟨c.1, b.symm⟩)]
  ·rw [if_neg b]
   by_cases a : 0 < P.length ∧ P.getD 0 0 = j
   ·rw [if_pos a, if_pos (.inl a)]
   ·rw [if_neg a, if_neg (fun q => q.elim a (fun q => b q.2.symm))]
 ·rw [if_neg c, hPy]
  by_cases a : 0 < P.length ∧ P.getD 0 0 = j
  ·rw [if_pos a, if_pos (.inl a)]
  ·rw [if_neg a, if_neg (fun q => q.elim a (fun q => by
    by_cases z : P.length = 0
    ·exact c ⟨q.1, .inl z⟩
    ·by_cases y : P.getD 0 0 = Q.getD 0 0
     ·exact a ⟨by omega, y.trans q.2⟩
     ·exact c ⟨q.1, .inr y⟩))]
theorem head_iff {f : Nat → Co} {n : Nat} {γ : List Nat} (hγ : γ ∈ comp f n) (x : Nat) {j : Nat} (hj : j ∈ γ) : (0 < (cof (comp f n) x).length ∧ (cof (comp f n) x).getD 0 0 = j) ↔ (x ∈ γ ∧ γ.getD 0 0 = j) := by
 constructor
 ·rintro ⟨h1, h2⟩
  have hne : cof (comp f n) x ≠ [] := List.length_pos_iff.1 h1
  have hm : cof (comp f n) x ∈ comp f n := (cof_mem _ _).resolve_left hne
  have hh := head_mem h1
  rw [h2] at hh
  have e1 := cof_eq (comp_asc f n) hm hh
  have e2 := cof_eq (comp_asc f n) hγ hj
  have e : cof (comp f n) x = γ := e1.symm.trans e2
  have hs := cof_self hne
  rw [e] at hs h2
  exact ⟨hs, h2⟩
 ·rintro ⟨h1, h2⟩
  rw [cof_eq (comp_asc f n) hγ h1]
  exact ⟨List.length_pos_iff.2 (comp_nn _ hγ), h2⟩
theorem stp_yg {f : Nat → Co} {n i : Nat} {γ : List Nat} (hγ : γ ∈ comp f n) {j : Nat} (hj : j ∈ γ) : (stp f n i j).y = if (i ∈ γ ∨ i - 1 ∈ γ) ∧ γ.getD 0 0 = j then ((f j).y + 4) % 8 else (f j).y := by
 rw [stp_y]
 have h1 := head_iff hγ (i - 1) hj
 have h2 := head_iff hγ i hj
 by_cases c : (i ∈ γ ∨ i - 1 ∈ γ) ∧ γ.getD 0 0 = j
 ·rw [if_pos c, if_pos]
  rcases c.1 with q | q
  ·exact .inr (h2.2 ⟨q, c.2⟩)
  ·exact .inl (h1.2 ⟨q, c.2⟩)
 ·rw [if_neg c, if_neg]
  rintro (q | q)
  ·exact c ⟨.inr (h1.1 q).1, (h1.1 q).2⟩
  ·exact c ⟨.inl (h2.1 q).1, (h2.1 q).2⟩
theorem stp_ye {f : Nat → Co} {n i j : Nat} (ho : (f j).o = false) : (stp f n i j).y = (f j).y := by
 rw [stp_y, if_neg]
 have key : ∀ x, ¬ (0 < (cof (comp f n) x).length ∧ (cof (comp f n) x).getD 0 0 = j) := by
  rintro x ⟨h1, h2⟩
  have hm : cof (comp f n) x ∈ comp f n := (cof_mem _ _).resolve_left (List.length_pos_iff.1 h1)
  have := (comp_mem.1 (List.mem_flatten.2 ⟨_, hm, head_mem h1⟩)).2
  rw [h2, ho] at this
  exact Bool.noConfusion this
 rintro (q | q)
 ·exact key _ q
 ·exact key _ q
theorem fus_rng {f : Nat → Co} {n : Nat} (h : fusP 2 f n) : Rng f n := fun _ hi => ⟨(fuU_get h.2.1 hi).1, (fuU_get h.2.1 hi).2.1, (fuU_get h.2.1 hi).2.2.1⟩
theorem gsm_like {f g : Nat → Co} (h : Like f g) (γ : List Nat) : ∀ k, gsm g γ k = gsm f γ k
 | 0 => rfl
 | k + 1 => by rw [gsm, gsm, gsm_like h γ k, h.d]
theorem shl {f g : Nat → Co} {n : Nat} (h : Like f g) (hs : shU f n) : shU g n := shU_ed (fun i _ => ⟨h.e i, h.d i⟩) hs
theorem stp_fus {f : Nat → Co} {n i : Nat} (hf : fusP 2 f n) (hi : i < n) : fusP 2 (stp f n i) n := by
 have hL := like_stp f n i
 have hR := rng_stp (fus_rng hf) hi
 refine ⟨⟨rfl, hf.1.2.1, shl hL hf.1.2.2⟩, fuU_all.2 fun j hj => ⟨(hR j hj).1, (hR j hj).2.1, (hR j hj).2.2, fun ho => ?_⟩, ?_⟩
 ·rw [hL.o] at ho
  rw [hL.d, stp_ye ho]
  exact (fuU_get hf.2.1 hj).2.2.2 ho
 ·rw [comp_like hL, grU_all (Nat.le_refl _), List.take_length]
  have hG := (grU_all (Nat.le_refl _)).1 hf.2.2
  rw [List.take_length] at hG
  intro γ hγ
  obtain ⟨g1, g2⟩ := hG γ hγ
  have hl0 : 0 < γ.length := List.length_pos_iff.2 (comp_nn _ hγ)
  refine ⟨gU_all.2 fun k hk h0 => ?_, ?_⟩
  ·have hm := gmem 0 hk
   rw [stp_yg hγ hm, if_neg (fun q => asc_head (asc_group (comp_asc f n) hγ) h0 hk q.2)]
   exact gU_all.1 g1 k hk h0
  ·rw [gsm_like hL, stp_yg hγ (head_mem hl0)]
   split <;> omega
theorem fus_okc {f : Nat → Co} {n j : Nat} (hf : fusP 2 f n) (hj : j < n) (ho : (f j).o = true) : Okc (f j) := by
 have h := shU_get hf.1.2.2 hj
 exact ⟨ho, h.1, h.2.1, h.2.2.1, h.2.2.2, (fuU_get hf.2.1 hj).1⟩
theorem wy_eq {c c' : Co} (h1 : c'.e = c.e) (h2 : c'.d = c.d) (h3 : c'.s = c.s) (h4 : c'.o = c.o) (t : Int) : wy c' t = wy c t := by
 unfold wy
 rw [h1, h2, h3, h4]
theorem stp_fe {f : Nat → Co} {n i : Nat} (hf : fusP 2 f n) (hfe : FEs f (comp f n)) (h0 : 0 < i) (hi : i < n) (hl : lnk f n i = true) : FEs (stp f n i) (comp (stp f n i) n) := by
 have hL := like_stp f n i
 have hf' := stp_fus hf hi
 have hG := (grU_all (Nat.le_refl _)).1 hf.2.2
 rw [List.take_length] at hG
 rw [comp_like hL]
 intro γ hγ
 have hfγ : fea f γ (f (γ.getD 0 0)).y.toNat := hfe γ hγ
 have hl0 : 0 < γ.length := List.length_pos_iff.2 (comp_nn _ hγ)
 have hasc := asc_group (comp_asc f n) hγ
 have hmem : ∀ j ∈ γ, j < n ∧ (f j).o = true := fun j hj => comp_mem.1 (List.mem_flatten.2 ⟨_, hγ, hj⟩)
 have hok : ∀ j ∈ γ, Okc (f j) := fun j hj => fus_okc hf (hmem j hj).1 (hmem j hj).2
 have hok' : ∀ j ∈ γ, Okc (stp f n i j) := fun j hj => fus_okc hf' (hmem j hj).1 (by rw [hL.o]; exact (hmem j hj).2)
 have hy0 := (fus_rng hf _ (hmem _ (head_mem hl0)).1).2
 show fea (stp f n i) γ (stp f n i (γ.getD 0 0)).y.toNat
 rw [stp_yg hγ (head_mem hl0)]
 have one : ∀ x, x ∈ γ → (x = i ∨ x = i - 1) → (∀ j ∈ γ, j ≠ x → j ≠ i ∧ j ≠ i - 1) → fea (stp f n i) γ ((f (γ.getD 0 0)).y.toNat + 4) := fun x hx hxi hno =>
  fea_flip (hok x hx) ⟨hL.e x, hL.d x, by rw [stp_s h0, if_pos hxi], hL.o x⟩ hasc hx (fun j hj hne t => wy_eq (hL.e j) (hL.d j) (by rw [stp_s h0, if_neg (fun q => q.elim (hno j hj hne).1 (hno j hj hne).2)]) (hL.o j) t) hfγ
 have fin4 : fea (stp f n i) γ ((f (γ.getD 0 0)).y.toNat + 4) → fea (stp f n i) γ (((f (γ.getD 0 0)).y + 4) % 8).toNat := fun h => (fea_mod (by omega)).1 h
 by_cases a : i ∈ γ
 ·rw [if_pos ⟨.inl a, rfl⟩]
  refine fin4 ?_
  by_cases b : i - 1 ∈ γ
  ·have hee := comp_both hγ h0 a b
   have hcof := cof_eq (comp_asc f n) hγ a
   have hgd : goodP f γ := by
    unfold lnk at hl
    rw [if_pos (by omega), if_pos ⟨(hmem _ b).2, (hmem _ a).2⟩, hcof] at hl
    exact of_decide_eq_true hl
   have L1 := like_tus f i
   have f1 : fea (tus f i) γ ((f (γ.getD 0 0)).y.toNat + 4) := fea_flip (hok i a) ⟨L1.e i, L1.d i, by rw [tus_s, if_pos rfl], L1.o i⟩ hasc a (fun j hj hne t => wy_eq (L1.e j) (L1.d j) (by rw [tus_s, if_neg hne]) (L1.o j) t) hfγ
   have hne : i - 1 ≠ i := by omega
   have hokm : Okc (tus f i (i - 1)) := by
    have : tus f i (i - 1) = f (i - 1) := by unfold tus; rw [if_neg hne]
    rw [this]; exact hok _ b
   have f2 : fea (stp f n i) γ ((f (γ.getD 0 0)).y.toNat + 4 + 4) := fea_flip hokm ⟨by rw [hL.e, L1.e], by rw [hL.d, L1.d], by rw [stp_s h0, if_pos (.inr rfl), tus_s, if_neg hne], by rw [hL.o, L1.o]⟩ hasc b (fun j hj hnj t => wy_eq (by rw [hL.e, L1.e]) (by rw [hL.d, L1.d]) (by
    rw [stp_s h0, tus_s]
    by_cases e : j = i
    ·rw [if_pos (.inl e), if_pos e]
    ·rw [if_neg (fun q => q.elim e hnj), if_neg e]) (by rw [hL.o, L1.o]) t) f1
   have f3 : fea (stp f n i) γ (f (γ.getD 0 0)).y.toNat := (fea_mod (by omega)).1 f2
   have hlen : 2 ≤ γ.length := by
    match γ, a, b with
    | [x], a, b => simp at a b; omega
    | _ :: _ :: _, _, _ => simp
   refine fea_four hok' hlen ?_ f3
   rw [hL.d, hL.d]
   rcases hgd with q | q | q | q
   ·exact .inl q
   ·exact .inr (.inl q)
   ·exact .inr (.inr (.inl q))
   ·by_cases h2 : γ.length = 2
    ·have hz := gU_all.1 (hG γ hγ).1 1 (by omega) (by omega)
     rw [hz] at q
     exact .inr (.inr (.inr (by omega)))
    ·exact .inl h2
  ·exact one i a (.inl rfl) fun j hj hne => ⟨hne, fun q => b (by rw [← q]; exact hj)⟩
 ·by_cases b : i - 1 ∈ γ
  ·rw [if_pos ⟨.inr b, rfl⟩]
   exact fin4 (one (i - 1) b (.inr rfl) fun j hj hne => ⟨fun q => a (by rw [← q]; exact hj), hne⟩)
  ·rw [if_neg (fun q => q.1.elim a b)]
   exact (fea_congr fun j hj t => wy_eq (hL.e j) (hL.d j) (by rw [stp_s h0, if_neg (fun q => q.elim (fun q => a (by rw [← q]; exact hj)) (fun q => b (by rw [← q]; exact hj)))]) (hL.o j) t).2 hfγ
theorem stp_lnk {f : Nat → Co} {n i : Nat} : lnk (stp f n i) n = lnk f n := by
 have hL := like_stp f n i
 have y4 : ∀ j, (stp f n i j).y % 4 = (f j).y % 4 := fun j => by
  rw [stp_y]
  split <;> omega
 funext j
 unfold lnk
 rw [comp_like hL, hL.e, hL.e, hL.o, hL.o]
 have hg : decide (goodP (stp f n i) (cof (comp f n) j)) = decide (goodP f (cof (comp f n) j)) := by
  refine decide_eq_decide.2 ?_
  unfold goodP
  rw [hL.d, hL.d]
  have a := y4 ((cof (comp f n) j).getD 0 0)
  have b := y4 ((cof (comp f n) j).getD 1 0)
  rw [show ((stp f n i ((cof (comp f n) j).getD 0 0)).y + (stp f n i ((cof (comp f n) j).getD 1 0)).y) % 4 = ((f ((cof (comp f n) j).getD 0 0)).y + (f ((cof (comp f n) j).getD 1 0)).y) % 4 by omega]
 rw [hg]
theorem dyP_key {c c' : Co} {b : Bool} (h1 : c'.d = c.d) (h2 : c'.o = c.o) (h3 : c.o = false → b = false → c'.s = c.s) (h4 : c.o = true → b = false → (c'.y + (if c'.s = -1 then 4 else 0)) % 8 = (c.y + (if c.s = -1 then 4 else 0)) % 8) : dyP c' b = dyP c b := by
 unfold dyP
 rw [h1, h2]
 cases ho : c.o with
 | false =>
  cases b with
  | false => rw [h3 ho rfl]; rfl
  | true => rfl
 | true =>
  cases b with
  | false => rw [h4 ho rfl]; rfl
  | true => rfl
theorem spB_like {f g : Nat → Co} (h : Like f g) (e : Int) (n : Nat) : spB g e n = spB f e n := by
 rw [Bool.eq_iff_iff, spB_iff, spB_iff]
 exact exists_congr fun i => by rw [h.e, h.o]
theorem kin_like {f g : Nat → Co} {n : Nat} (H : OkL f n) (h : Like f g) (hs : ∀ j, j < n → (f j).o = false → spB f (f j).e n = false → (g j).s = (f j).s) (hy : ∀ j, j < n → (f j).o = true → spB f (f j).e n = false → ((g j).y + (if (g j).s = -1 then 4 else 0)) % 8 = ((f j).y + (if (f j).s = -1 then 4 else 0)) % 8) (e : Int) : kin 2 g n e = kin 2 f n e := by
 unfold kin
 rw [if_pos rfl, if_pos rfl, spB_like h]
 by_cases hx : ∃ j, j < n ∧ (f j).e = e
 ·obtain ⟨j, hj, he⟩ := hx
  rw [spC_hit (f := g) (i := j) (by rw [h.e]; exact he) hj fun k h1 h2 => by rw [h.e]; have := H.up j k h1 h2; omega, spC_hit (f := f) he hj fun k h1 h2 => by have := H.up j k h1 h2; omega]
  rw [← he]
  exact dyP_key (h.d j) (h.o j) (hs j hj) (hy j hj)
 ·have hno : ∀ j, j < n → (f j).e ≠ e := fun j hj he => hx ⟨j, hj, he⟩
  rw [spC_miss (f := g) fun j hj => by rw [h.e]; exact hno j hj, spC_miss hno]
theorem free_of {f : Nat → Co} {n j : Nat} (hj : j < n) (ho : (f j).o = true) (hb : spB f (f j).e n = false) : cof (comp f n) j = [j] := by
 refine free_one hj ho fun k hk hok => ?_
 have hno : ¬ ∃ i, i < n ∧ ((f i).e = (f j).e - 1 ∨ (f i).e = (f j).e + 1) ∧ (f i).o = true := fun h => by
  have := spB_iff.2 h
  rw [hb] at this
  exact Bool.noConfusion this
 exact ⟨fun h => hno ⟨k, hk, .inl h, hok⟩, fun h => hno ⟨k, hk, .inr h, hok⟩⟩
theorem stp_kin {f : Nat → Co} {n i : Nat} (hf : fusP 2 f n) (h0 : 0 < i) (hi : i < n) (hl : lnk f n i = true) (e : Int) : kin 2 (stp f n i) n e = kin 2 f n e := by
 have hL := like_stp f n i
 refine kin_like (okL_sh hf.1.2.1 hf.1.2.2) hL (fun j hj ho hb => ?_) (fun j hj ho hb => ?_) e
 ·rw [stp_s h0, if_neg]
  intro hji
  have hno : ¬ ∃ k, k < n ∧ ((f k).e = (f j).e - 1 ∨ (f k).e = (f j).e + 1) ∧ (f k).o = true := fun h => by
   have := spB_iff.2 h
   rw [hb] at this
   exact Bool.noConfusion this
  unfold lnk at hl
  by_cases d1 : (f i).e - (f (i - 1)).e = 1
  ·rw [if_pos d1] at hl
   rcases hji with q | q
   ·subst q
    rw [if_neg (by rw [ho]; simp), ho, Bool.or_false] at hl
    exact hno ⟨j - 1, by omega, .inl (by omega), hl⟩
   ·rw [← q] at hl d1
    rw [if_neg (by rw [ho]; simp), ho, Bool.false_or] at hl
    exact hno ⟨i, hi, .inr (by omega), hl⟩
  ·rw [if_neg d1] at hl
   split at hl
   ·rcases hji with q | q
    ·subst q; rw [ho, Bool.and_false] at hl; exact Bool.noConfusion hl
    ·rw [← q, ho, Bool.false_and] at hl; exact Bool.noConfusion hl
   ·exact Bool.noConfusion hl
 ·have hc := free_of hj ho hb
  have hγ : [j] ∈ comp f n := by
   have := (cof_spec (comp_mem.2 ⟨hj, ho⟩)).1
   rwa [hc] at this
  have hr := fus_rng hf j hj
  rw [stp_yg hγ (List.mem_singleton.2 rfl), stp_s h0]
  by_cases a : j = i ∨ j = i - 1
  ·rw [if_pos ⟨a.elim (fun q => .inl (by rw [q]; simp)) (fun q => .inr (by rw [q]; simp)), rfl⟩, if_pos a]
   rcases hr.1 with s | s
   ·rw [s, if_pos (by decide), if_neg (by decide)]; omega
   ·rw [s, if_neg (by decide), if_pos (by decide)]; omega
  ·rw [if_neg (fun q => a (q.1.elim (fun z => .inl (List.mem_singleton.1 z).symm) (fun z => .inr (List.mem_singleton.1 z).symm))), if_neg a]
def sumY (f : Nat → Co) : List Nat → Nat
 | [] => 0
 | i :: l => (f i).y.toNat + sumY f l
theorem fea_self {f : Nat → Co} : ∀ {l : List Nat} {s : Nat}, (∀ i ∈ l, legP (f i)) → s % 8 = sumY f l % 8 → fea f l s
 | [], s, _, h => by unfold fea; unfold sumY at h; omega
 | i :: l, s, hg, h => by
  have h1 := hg i (by simp)
  have hy : 0 ≤ (f i).y ∧ (f i).y ≤ 7 := by unfold legP at h1; omega
  unfold sumY at h
  refine fea_cons.2 ⟨(f i).y.toNat, by omega, ?_, fea_self (fun j hj => hg j (by simp [hj])) (by omega)⟩
  rw [Int.toNat_of_nonneg hy.1]
  exact h1
theorem sumY_snoc (f : Nat → Co) (x : Nat) : ∀ l, sumY f (l ++ [x]) = sumY f l + (f x).y.toNat
 | [] => by show (f x).y.toNat + 0 = 0 + _; omega
 | i :: l => by rw [List.cons_append, sumY, sumY, sumY_snoc f x l]; omega
theorem ysm_sum {f : Nat → Co} {g : List Nat} (hg : ∀ i ∈ g, 0 ≤ (f i).y) : ∀ {k : Nat}, k ≤ g.length → ysm f g k = (sumY f (g.take k) : Int)
 | 0, _ => rfl
 | k + 1, h => by
  have hm : g.getD k 0 ∈ g := by simp [List.getD, List.getElem?_eq_getElem (show k < g.length by omega)]
  have e : g.take (k + 1) = g.take k ++ [g.getD k 0] := by rw [List.take_succ_eq_append_getElem (by omega)]; simp [List.getD, List.getElem?_eq_getElem (show k < g.length by omega)]
  rw [ysm, ysm_sum hg (by omega), e, sumY_snoc]
  have := hg _ hm
  omega
theorem ysm_par {f : Nat → Co} {g : List Nat} (hg : ∀ i ∈ g, ((f i).y - (f i).d) % 2 = 0) : ∀ {k : Nat}, k ≤ g.length → (ysm f g k - gsm f g k) % 2 = 0
 | 0, _ => rfl
 | k + 1, h => by
  have hm : g.getD k 0 ∈ g := by simp [List.getD, List.getElem?_eq_getElem (show k < g.length by omega)]
  have a := hg _ hm
  have b := ysm_par hg (k := k) (by omega)
  rw [ysm, gsm]
  omega
theorem fzf_in {f : Nat → Co} {n j : Nat} {γ : List Nat} (hγ : γ ∈ comp f n) (hj : j ∈ γ) : fzf f n j = wy (f j) (if γ.getD 0 0 = j then ysm f γ γ.length % 8 else 0) := by
 unfold fzf fzy
 rw [if_pos (List.mem_flatten.2 ⟨γ, hγ, hj⟩), cof_eq (comp_asc f n) hγ hj]
theorem raw_fus {f : Nat → Co} {n : Nat} (h : rawP 2 f n) : fusP 2 (fzf f n) n ∧ FEs (fzf f n) (comp (fzf f n) n) := by
 have hL := like_fzf f n
 have hlg : ∀ j, j < n → legP (f j) := fun j hj => lgU_get h.2 hj
 have hmem : ∀ γ ∈ comp f n, ∀ j ∈ γ, j < n ∧ (f j).o = true := fun γ hγ j hj => comp_mem.1 (List.mem_flatten.2 ⟨_, hγ, hj⟩)
 rw [comp_like hL]
 constructor
 ·refine ⟨⟨rfl, h.1.2.1, shl hL h.1.2.2⟩, fuU_all.2 fun j hj => ?_, ?_⟩
  ·have hR := rng_fzf (f := f) (n := n) (fun i hi => by have := hlg i hi; unfold legP at this; omega) j hj
   refine ⟨hR.1, hR.2.1, hR.2.2, fun ho => ?_⟩
   rw [hL.o] at ho
   have hz : fzf f n j = f j := by
    unfold fzf
    rw [if_neg (fun q => by have := (comp_mem.1 q).2; rw [ho] at this; exact Bool.noConfusion this)]
   rw [hz]
   have := hlg j hj
   unfold legP at this
   rw [if_neg (by rw [ho]; decide)] at this
   exact this.2.2.2.2.2.2.2
  ·rw [comp_like hL, grU_all (Nat.le_refl _), List.take_length]
   intro γ hγ
   have hl0 : 0 < γ.length := List.length_pos_iff.2 (comp_nn _ hγ)
   refine ⟨gU_all.2 fun k hk h0 => ?_, ?_⟩
   ·have hm := gmem 0 hk
    rw [fzf_in hγ hm, if_neg (asc_head (asc_group (comp_asc f n) hγ) h0 hk)]
    rfl
   ·rw [gsm_like hL, fzf_in hγ (head_mem hl0), if_pos rfl]
    show (ysm f γ γ.length % 8 - gsm f γ γ.length) % 2 = 0
    have := ysm_par (f := f) (g := γ) (fun j hj => by
     have q := hlg j (hmem γ hγ j hj).1
     unfold legP at q
     rw [if_pos (hmem γ hγ j hj).2] at q
     exact q.2.2.2.2.2.2.2.1) (Nat.le_refl γ.length)
    omega
 ·intro γ hγ
  have hl0 : 0 < γ.length := List.length_pos_iff.2 (comp_nn _ hγ)
  show fea (fzf f n) γ (fzf f n (γ.getD 0 0)).y.toNat
  rw [fzf_in hγ (head_mem hl0), if_pos rfl]
  refine (fea_congr (f := f) fun j hj t => wy_eq (hL.e j) (hL.d j) ?_ (hL.o j) t).2 (fea_self (fun j hj => hlg j (hmem γ hγ j hj).1) ?_)
  ·rw [fzf_in hγ hj]; rfl
  ·show (ysm f γ γ.length % 8).toNat % 8 = sumY f γ % 8
   have := ysm_sum (f := f) (g := γ) (fun j hj => by have q := hlg j (hmem γ hγ j hj).1; unfold legP at q; omega) (Nat.le_refl γ.length)
   rw [List.take_length] at this
   omega
theorem raw_kin {f : Nat → Co} {n : Nat} (h : rawP 2 f n) (e : Int) : kin 2 (fzf f n) n e = kin 2 f n e := by
 refine kin_like (okL_sh h.1.2.1 h.1.2.2) (like_fzf f n) (fun j hj ho hb => ?_) (fun j hj ho hb => ?_) e
 ·unfold fzf; split <;> rfl
 ·have hc := free_of hj ho hb
  have hγ : [j] ∈ comp f n := by
   have := (cof_spec (comp_mem.2 ⟨hj, ho⟩)).1
   rwa [hc] at this
  have hy : 0 ≤ (f j).y ∧ (f j).y ≤ 7 := by have q := lgU_get h.2 hj; unfold legP at q; omega
  rw [fzf_in hγ (List.mem_singleton.2 rfl), if_pos (show [j].getD 0 0 = j from rfl)]
  show (ysm f [j] 1 % 8 + (if (f j).s = -1 then 4 else 0)) % 8 = _
  rw [show ysm f [j] 1 = 0 + (f j).y from rfl, Int.zero_add, Int.emod_eq_of_lt hy.1 (by omega)]
structure Can2 (f : Nat → Co) (n : Nat) (g : Nat → Co) : Prop where
 fus : fusP 2 g n
 fe : FEs g (comp g n)
 like : Like f g
 lnk : lnk g n = lnk (fzf f n) n
 kin : ∀ e, kin 2 g n e = kin 2 f n e
theorem can_step {f : Nat → Co} {n : Nat} {g : Nat → Co} (h : Can2 f n g) {i : Nat} (h0 : 0 < i) (hi : i < n) : Can2 f n (cst n g i) ∧ (lnk (fzf f n) n i = true → (cst n g i i).s ≠ -1) ∧ ∀ j, i < j → (cst n g i j).s = (g j).s := by
 unfold cst
 by_cases hc : (g i).s = -1 ∧ lnk g n i = true
 ·rw [if_pos hc]
  refine ⟨⟨stp_fus h.fus hi, stp_fe h.fus h.fe h0 hi hc.2, h.like.trans (like_stp g n i), stp_lnk.trans h.lnk, fun e => (stp_kin h.fus h0 hi hc.2 e).trans (h.kin e)⟩, fun _ => ?_, fun j hj => ?_⟩
  ·rw [stp_s h0, if_pos (.inl rfl), hc.1]; decide
  ·rw [stp_s h0, if_neg (by omega)]
 ·rw [if_neg hc]
  exact ⟨h, fun hl hs => hc ⟨hs, by rw [h.lnk]; exact hl⟩, fun _ _ => rfl⟩
theorem can_all {f : Nat → Co} {n : Nat} : ∀ {i : Nat} {g : Nat → Co}, i < n → Can2 f n g → (∀ j, i < j → j < n → lnk (fzf f n) n j = true → (g j).s ≠ -1) → Can2 f n (canR n i g) ∧ ∀ j, 0 < j → j < n → lnk (fzf f n) n j = true → (canR n i g j).s ≠ -1
 | 0, g, _, h, hs => ⟨h, hs⟩
 | i + 1, g, hi, h, hs => by
  obtain ⟨k1, k2, k3⟩ := can_step h (i := i + 1) (by omega) hi
  refine can_all (i := i) (by omega) k1 fun j h1 h2 h3 => ?_
  by_cases e : j = i + 1
  ·rw [e]; rw [e] at h3; exact k2 h3
  ·rw [k3 j (by omega)]; exact hs j (by omega) h2 h3
theorem can_acc {f : Nat → Co} {n : Nat} (h : rawP 2 f n) : accP 2 (canf f n) n ∧ Like f (canf f n) ∧ ∀ e, kin 2 (canf f n) n e = kin 2 f n e := by
 have hn : 0 < n := Nat.pos_of_ne_zero h.1.2.1
 obtain ⟨r1, r2⟩ := raw_fus h
 obtain ⟨c, hs⟩ := can_all (f := f) (n := n) (i := n - 1) (g := fzf f n) (by omega) ⟨r1, r2, like_fzf f n, rfl, raw_kin h⟩ (fun j h1 h2 => by omega)
 refine ⟨.inr (.inr ⟨c.fus, ?_, cfB_iff.2 c.fe⟩), c.like, c.kin⟩
 intro γ hγ k hk
 have hr : Run (lnk (canf f n) n) γ := allG_run _ hγ
 obtain ⟨m, hm, e⟩ := List.getElem_of_mem hk
 rw [List.length_drop] at hm
 rw [List.getElem_drop] at e
 obtain ⟨q1, q2⟩ := hr m (by omega)
 have hkk : γ.getD (m + 1) 0 = k := by
  simp only [List.getD, List.getElem?_eq_getElem (show m + 1 < γ.length by omega), Option.getD_some]
  rw [← e]
  congr 1
  omega
 rw [hkk] at q1 q2
 exact hs k (by omega) (allG_lt γ hγ k (List.mem_of_mem_drop hk)) (by rw [← c.lnk]; exact q2)
theorem crI_like {f g : Nat → Co} (h : Like f g) (j : Nat) : ∀ i, crI g j i = crI f j i
 | 0 => rfl
 | i + 1 => by rw [crI, crI, crI_like h j i, h.e, h.e, h.d, h.d]
theorem crH_like {f g : Nat → Co} (h : Like f g) : ∀ n, crH g n = crH f n
 | 0 => rfl
 | n + 1 => by rw [crH, crH, crH_like h n, crI_like h]
theorem tyU_like {f g : Nat → Co} (h : Like f g) : ∀ n, tyU g n = tyU f n
 | 0 => rfl
 | n + 1 => by
  rw [tyU, tyU, tyU_like h n]
  unfold tyS
  rw [h.o, h.o, h.e, h.e, h.d]
theorem maG_like {f g : Nat → Co} {n : Nat} (h : Like f g) (ha : accP 2 f n) (hb : accP 2 g n) (hk : ∀ e, kin 2 g n e = kin 2 f n e) : maG 2 g n = maG 2 f n := by
 have hm : mG 2 g n = mG 2 f n := by
  unfold mG tyN
  rw [crH_like h, tyU_like h, h.e, funext hk]
 unfold maG
 rw [if_pos ha, if_pos hb, crH_like h, hm]
end Go.Proofs.YtdieokoenhncfaaGreatDoor

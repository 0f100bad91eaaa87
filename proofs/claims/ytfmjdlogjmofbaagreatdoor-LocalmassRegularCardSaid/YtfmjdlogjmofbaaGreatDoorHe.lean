/- A splitting: two places exchanged; the least exponent. -/
import Derived.Test.YtfmjdlogjmofbaaGreatDoorMem
import Derived.Test.YtfmjdlogjmofbaaGreatDoorHc
import Derived.Test.YtfmjdlogjmofbaaGreatDoorW
set_option maxRecDepth 3000
namespace Go.Proofs.YtfmjdlogjmofbaaGreatDoor
section
open Go.RowKit Limb Det Num
def tw (i j r : Nat) : Nat := if r = i then j else if r = j then i else r
theorem nZU (i j r : Nat) : tw i j (tw i j r) = r := by unfold tw; grind
theorem gZy {i j r n : Nat} (hi : i < n) (hj : j < n) (hr : r < n) : tw i j r < n := by unfold tw; split <;> (try split) <;> omega
theorem Pm.tw {n i j : Nat} {π σ : Nat → Nat} (h : Pm n π σ) (hi : i < n) (hj : j < n) : Pm n (fun r => π (tw i j r)) (fun r => tw i j (σ r)) :=
 ⟨fun r hr => h.lt _ (gZy hi hj hr), fun r hr => gZy hi hj (h.lt' r hr), fun r hr => by rw [h.l _ (gZy hi hj hr), nZU], fun r hr => by rw [nZU, h.r r hr]⟩
def twC (i j l : Nat) (A : Nat → Nat → Int) : Nat → Nat → Int := fun r x => if r < l then A r (tw i j x) else A r x
def twM (i j : Nat) (A : Nat → Nat → Int) : Nat → Nat → Int := fun r x => A (tw i j r) (tw i j x)
theorem MB.twC {n m i j l : Nat} {A : Nat → Nat → Int} (h : MB n m A) (hi : i < n) (hj : j < n) : MB n m (twC i j l A) := fun r x hr hx => by
 unfold Go.Proofs.YtfmjdlogjmofbaaGreatDoor.twC
 split
 ·exact h r _ hr (gZy hi hj hx)
 ·exact h r x hr hx
theorem MB.twM {n m i j : Nat} {A : Nat → Nat → Int} (h : MB n m A) (hi : i < n) (hj : j < n) : MB n m (twM i j A) := fun _ _ hr hx => h _ _ (gZy hi hj hr) (gZy hi hj hx)
theorem gM_tw {n i j : Nat} {σ : Nat → Nat} {A : Nat → Nat → Int} (hs : ∀ r, r < n → σ r < n) : gM σ (twC i j n A) n = gM (fun r => tw i j (σ r)) (twM i j A) n := by
 funext r
 unfold gM
 by_cases hr : r < n
 ·rw [aZl hr, aZl hr]
  refine aZu fun x hx => ?_
  unfold twC twM
  dsimp only
  rw [if_pos (hs r hr), nZU]
 ·rw [aZo hr, aZo hr]
theorem pZN {A : Nat → Nat → Int} {i j l x : Nat} : (if x = j then ex (.int .i64 (A l i)) else if x = i then ex (.int .i64 (A l j)) else ex (.int .i64 (A l x))) = ex (.int .i64 (twC i j (l + 1) A l x)) := by
 rw [show twC i j (l + 1) A l x = A l (tw i j x) from if_pos oM]
 unfold tw
 by_cases h1 : x = j
 ·by_cases h2 : x = i
  ·rw [if_pos h1, if_pos h2]; rw [← h1, h2]
  ·rw [if_pos h1, if_neg h2, if_pos h1]
 ·by_cases h2 : x = i
  ·rw [if_neg h1, if_pos h2, if_pos h2]
  ·rw [if_neg h1, if_neg h2, if_neg h2, if_neg h1]
theorem updF_two {f : Nat → List Pd} {r : Nat} {x y : List Pd} : updF (updF f r x) r y = updF f r y := by
 funext j
 unfold updF
 split <;> rfl
theorem retGii {P : Program} {fn : Func} {σ : St} {bx' : Bx} {a b : Nat} {p q : Pd} (hf : fn.results = #[.tmp a, .tmp b]) (h1 : look σ.sl a = some (.one p)) (h2 : look σ.sl b = some (.one q)) (hs : subBx σ.bx bx') (hk : LKeep σ.bx bx') : RetG P fn σ (.one (tupP [p, q])) bx' := by
 refine ⟨⟨hs, hk⟩, fun En nn w0 h0 c h β u w hi hsl => ?_⟩
 obtain ⟨v, hv, hp, _⟩ := hsl.slot a _ h1
 obtain ⟨z, hz, hq, _⟩ := hsl.slot b _ h2
 exact ⟨.tuple #[v, z], by rw [bZD, hf]; simp [gZ5, hv, hz], ⟨[v, z], rfl, hp, hq, trivial⟩, trivial⟩
def lsS (v : Int → Nat) (A : Nat → Nat → Int) (ab : Nat × Nat) (i j : Nat) : Nat × Nat := if v (A i j) < v (A ab.1 ab.2) then (i, j) else ab
def lsD (v : Int → Nat) (A : Nat → Nat → Int) : Nat → Nat → Nat × Nat → Nat × Nat
 | 0, _, ab => ab
 | f + 1, i, ab => lsD v A f (i + 1) (lsS v A ab i i)
def lsR (v : Int → Nat) (A : Nat → Nat → Int) (i : Nat) : Nat → Nat → Nat × Nat → Nat × Nat
 | 0, _, ab => ab
 | f + 1, j, ab => lsR v A i f (j + 1) (lsS v A ab i j)
def lsO (v : Int → Nat) (A : Nat → Nat → Int) : Nat → Nat → Nat × Nat → Nat × Nat
 | 0, _, ab => ab
 | f + 1, i, ab => lsO v A f (i + 1) (lsR v A i f (i + 1) ab)
def vlZ (p k : Nat) (x : Int) : Nat := valN p k x.toNat
def aZA (p k n : Nat) (A : Nat → Nat → Int) (r : Nat) : Nat × Nat := lsO (vlZ p k) A (n - r) r (lsD (vlZ p k) A (n - r) r (r, r))
theorem qZg {v : Int → Nat} {A : Nat → Nat → Int} {ab : Nat × Nat} {i j n : Nat} (h : ab.1 < n ∧ ab.2 < n) (hi : i < n) (hj : j < n) : (lsS v A ab i j).1 < n ∧ (lsS v A ab i j).2 < n := by
 unfold lsS
 split
 ·exact ⟨hi, hj⟩
 ·exact h
section
variable (En : Ev)
set_option maxHeartbeats 1000000 in
theorem hswap (p m k n i j : Nat) (π σ : Nat → Nat) (A T : Nat → Nat → Int) (hP : Pm n π σ) (hn : n ≤ 8) (hi : i < n) (hj : j < n) : FnG Tryz.prog En 85 [.ptr 1750 0, .one (ex (.int .i64 (i : Int))), .one (ex (.int .i64 (j : Int)))] (sbc (p : Int) (m : Int) (k : Int) n π (gM σ A n) (aZy T n n)) (.one (ex (.tuple #[]))) (sbc (p : Int) (m : Int) (k : Int) n (fun r => π (tw i j r)) (gM (fun r => tw i j (σ r)) (twM i j A) n) (aZy (twC i j n T) n n)) := by
 have hπ := hP.lt8 hn
 have hπ' := (hP.tw hi hj).lt8 hn
 refine aZr Tryz.func85 rfl Tryz.ntmps85 rfl ?_
 intro w0 h0 c
 refine js<|js<|jr<|jm jj<|jS (aZe jj)<|jF jj jj<|jS (aZx jj jj jj uG)<|jS (aZE jj CSlice.ok)<|jm jj<|jn<|jb ?_
 refine WpD.loop (α := {l : Nat // l ≤ n}) (fun l => ⟨[(0, .ptr 1750 0), (1, .one (ex (.int .i64 (i : Int)))), (2, .one (ex (.int .i64 (j : Int)))), (11, .one (ex (.int .i64 (n : Int)))), (12, .one (ex (.int .i64 (l.1 : Int))))], sbc (p : Int) (m : Int) (k : Int) n π (gM σ (twC i j l.1 A) n) (aZy (twC i j l.1 T) n n)⟩) (fun l => n - l.1) ⟨0, Nat.zero_le _⟩ ?_ ?_
 ·dsimp only
  exact Sub.mk sJ (bZs rfl rfl fFs rfl fFs (fun r hr => PsLe.of (congrFun (gZU hP fun a b _ _ => by unfold twC; rw [if_neg oM]) r)) (fun r hr => PsLe.of (congrFun (bZy fun a b _ _ => by unfold twC; rw [if_neg oM]) r))) (bZf oM hπ)
 rintro ⟨l, hl⟩
 dsimp only
 by_cases hln : l < n
 ·have hr8 := hπ l hln
  have hr8' : l < 8 := oM
  have he : gM σ (twC i j l A) n (π l) = outL (fun x => ex (.int .i64 (A l x))) n := iZO hP hln fun x _ => by unfold twC; rw [if_neg oM]
  have he' : aZy (twC i j l T) n n l = outL (fun x => ex (.int .i64 (T l x))) n := jZy hln fun x _ => by unfold twC; rw [if_neg oM]
  refine js<|jr<|jS (bLt jj jj)<|jn<|js<|jt jj<|jp<|js<|jb<|js<|jr<|jm jj<|ja jj<|jn<|js<|jr<|jm jj<|jS (aZe jj)<|jF jj jj<|jS (aZx jj jj jj uG)<|jm jj<|jS (aZd jj jj aO) ?_
  refine jS (aZt jj jj aO jj aG)<|jm jj<|jm jj<|jS (aZe jj)<|jF jj jj<|jS (aZx jj jj jj uG)<|jm jj<|jS (aZd jj jj aO) ?_
  refine jS (aZt jj jj aO jj aG)<|jm jj<|jm jj<|jS (aZe jj)<|jF jj jj<|jS (aZx jj jj jj uG)<|jm jj<|jS (aZd jj jj aO) ?_
  refine jS (aZt jj jj aO jj aG)<|jm jj<|jS (aZd jj jj aO)<|jS (aZ8 jj fFs aO aR aO) ?_
  refine jm jj<|jS (aZe jj)<|jF jj jj<|jS (aZx jj jj jj uG)<|jm jj<|jS (aZd jj jj aO) ?_
  refine jS (aZt jj jj aO jj aG)<|jm jj<|jS (aZd jj jj aO)<|jS (aZ8 jj fFs aO aR aO) ?_
  refine jS (aZd jj jj aO)<|RG.NW (LT.plain jj (bZO jj jj fFs aO aR aO)) jj ?_
  refine jS (aZd jj jj aO)<|RG.NW (LT.plain jj (bZO jj jj fFs aM (dZA _ _ _) oM)) jj ?_
  refine jn<|jr<|jm jj<|jS (aZe jj)<|jF jj jj<|jS (aZx jj jj jj uG)<|jm jj<|jS (aZd jj jj aO) ?_
  refine jS (aZt jj jj aO jj aG)<|jm jj<|jm jj<|jS (aZe jj)<|jF jj jj<|jS (aZx jj jj jj uG)<|jm jj<|jS (aZd jj jj aO) ?_
  refine jS (aZt jj jj aO jj aG)<|jm jj<|jm jj<|jS (aZe jj)<|jF jj jj<|jS (aZx jj jj jj uG)<|jm jj<|jS (aZd jj jj aO) ?_
  refine jS (aZt jj jj aO jj aG)<|jm jj<|jS (aZd jj jj aO)<|jS (aZ8 jj fFs aO aR aO) ?_
  refine jm jj<|jS (aZe jj)<|jF jj jj<|jS (aZx jj jj jj uG)<|jm jj<|jS (aZd jj jj aO) ?_
  refine jS (aZt jj jj aO jj aG)<|jm jj<|jS (aZd jj jj aO)<|jS (aZ8 jj fFs aO aR aO) ?_
  refine jS (aZd jj jj aO)<|RG.NW (LT.plain jj (bZO jj jj fFs aO aR aO)) jj ?_
  refine jS (aZd jj jj aO)<|RG.NW (LT.plain jj (bZO jj jj fFs aM (dZA _ _ _) oM)) jj ?_
  refine jn<|jr<|jS (bAd jj jj wO)<|jm jj<|jn ?_
  refine ⟨⟨l + 1, oM⟩, ?_, oD⟩
  dsimp only
  exact Sub.mk sJ (bZs rfl rfl fFs rfl fFs (fun r hr => PsLe.of (congrFun (updF_two.trans (kZf (B := twC i j (l + 1) A) hP hln (fun a b _ hne _ => by unfold twC; by_cases e : a < l; rw [if_pos e, if_pos oM]; rw [if_neg e, if_neg oM]) (fun x _ => pZN))) r)) (fun r hr => PsLe.of (congrFun (updF_two.trans (hZy (B := twC i j (l + 1) T) hln (fun a b _ hne _ => by unfold twC; by_cases e : a < l; rw [if_pos e, if_pos oM]; rw [if_neg e, if_neg oM]) (fun x _ => pZN))) r))) (bZf oM hπ)
 ·have e : l = n := oM
  subst e
  refine js<|jr<|jS (bLf jj jj)<|jn<|js<|jf jj<|je<|jr<|jm jj<|jS (aZe jj)<|jF jj jj<|jS (aZx jj jj jj uG)<|jm jj<|jm jj<|jS (aZe jj)<|jF jj jj<|jS (aZx jj jj jj uG)<|jm jj<|jm jj<|jS (aZe jj)<|jF jj jj<|jS (aZx jj jj jj uG)<|jm jj<|jS (aZd jj jj aO) ?_
  refine jS (aZt jj jj aO jj aG)<|jm jj<|jS (aZe jj)<|jF jj jj<|jS (aZx jj jj jj uG)<|jm jj<|jS (aZd jj jj aO) ?_
  refine jS (aZt jj jj aO jj aG)<|jS (aZd jj jj aO)<|jO (bZw jj jj jj aO aG)<|jS (aZd jj jj aO)<|jO (bZw jj jj jj aO aG)<|jn ?_
  refine oZq rfl (bZs rfl (congrArg some (aZu fun q hq => ?_)) fFs rfl fFs (fun r _ => PsLe.of (congrFun (gM_tw hP.lt') r)) (fun _ _ => PsLe.refl _)) (bZf oM hπ')
  unfold owP tw
  dsimp only
  by_cases h1 : q = j
  ·rw [if_pos h1]
   by_cases h2 : q = i
   ·rw [if_pos h2]; rw [← h1, h2]
   ·rw [if_neg h2, if_pos h1]
  ·rw [if_neg h1]
   by_cases h2 : q = i
   ·rw [if_pos h2, if_pos h2]
   ·rw [if_neg h2, if_neg h2, if_neg h1]
set_option maxHeartbeats 1000000 in
theorem hleast (p m k n r : Nat) (π σ : Nat → Nat) (A : Nat → Nat → Int) (t : Nat → List Pd) (hP : Pm n π σ) (hn : n ≤ 8) (hr : r < n) (hp : 2 ≤ p) (hp2 : p ≤ 4294967296) (hm2 : m ≤ 2147483648) (hA : MB n m A) : FnG Tryz.prog En 84 [.ptr 1750 0, .one (ex (.int .i64 (r : Int)))] (sbc (p : Int) (m : Int) (k : Int) n π (gM σ A n) t) (.one (tupP [ex (.int .i64 (((aZA p k n A r).1 : Nat) : Int)), ex (.int .i64 (((aZA p k n A r).2 : Nat) : Int))])) (sbc (p : Int) (m : Int) (k : Int) n π (gM σ A n) t) := by
 have hπ := hP.lt8 hn
 have V : ∀ i j, i < n → j < n → FnG Tryz.prog En 140 [.ptr 1750 0, .one (ex (.int .i64 (A i j)))] (sbc (p : Int) (m : Int) (k : Int) n π (gM σ A n) t) (.one (ex (.int .i64 ((vlZ p k (A i j) : Nat) : Int)))) (sbc (p : Int) (m : Int) (k : Int) n π (gM σ A n) t) := fun i j hi hj => by
  have h := hA i j hi hj
  have := qZz En p k (A i j).toNat n (m : Int) π (gM σ A n) t hn hπ hp hp2 oM
  rwa [Int.toNat_of_nonneg h.1] at this
 have he : ∀ i, i < n → gM σ A n (π i) = outL (fun x => ex (.int .i64 (A i x))) n := fun i hi => iZO hP hi fun x _ => rfl
 unfold aZA
 refine aZr Tryz.func84 rfl Tryz.ntmps84 rfl ?_
 intro w0 h0 c
 refine js<|jr<|ja jj<|ja jj<|jn<|js<|jr<|jm jj<|jm jj<|ja jj<|ja jj<|jn<|js<|js<|jr<|jm jj<|ja jj<|jn<|jb ?_
 refine WpD.loop (α := {x : Nat × Nat × Nat // x.1 ≤ n ∧ (x.2.1 < n ∧ x.2.2 < n) ∧ lsD (vlZ p k) A (n - r) r (r, r) = lsD (vlZ p k) A (n - x.1) x.1 x.2}) (fun x => ⟨[(0, .ptr 1750 0), (1, .one (ex (.int .i64 (r : Int)))), (6, .one (ex (.int .i64 (x.1.2.1 : Int)))), (7, .one (ex (.int .i64 (x.1.2.2 : Int)))), (8, .one (ex (.int .i64 (x.1.1 : Int))))], sbc (p : Int) (m : Int) (k : Int) n π (gM σ A n) t⟩) (fun x => n - x.1.1) ⟨(r, r, r), oM, ⟨hr, hr⟩, rfl⟩ ?_ ?_
 ·dsimp only
  exact Sub.mk sJ (bZs rfl rfl fFs rfl fFs (fun r hr => PsLe.refl _) (fun r hr => PsLe.refl _)) (bZf oM hπ)
 rintro ⟨⟨i, a, b⟩, hi, ⟨ha, hb⟩, hE⟩
 dsimp only at hi ha hb hE ⊢
 by_cases hin : i < n
 ·have h8 := hπ i hin
  have h8' := hπ a ha
  have he1 := he i hin
  have he2 := he a ha
  have V1 := V i i hin hin
  have V2 := V a b ha hb
  obtain ⟨f, hf⟩ : ∃ f, n - i = f + 1 := ⟨n - i - 1, oM⟩
  have hf2 : n - (i + 1) = f := oM
  rw [hf] at hE
  have hE : lsD (vlZ p k) A (n - r) r (r, r) = lsD (vlZ p k) A f (i + 1) (lsS (vlZ p k) A (a, b) i i) := hE
  unfold lsS at hE
  by_cases hv : vlZ p k (A i i) < vlZ p k (A a b)
  ·rw [if_pos hv] at hE
   refine js<|js<|jr<|jm jj<|jm jj<|jS (aZe jj)<|jF jj jj<|jS (aZx jj jj jj uG)<|jS (aZE jj CSlice.ok)<|jS (bLt jj jj)<|jn<|jt jj<|jp<|js<|jb<|js<|jr<|jm jj<|jm jj<|jS (aZe jj)<|jF jj jj<|jS (aZx jj jj jj uG)<|jm jj<|jS (aZd jj jj aO) ?_
   refine jS (aZt jj jj aO jj aG)<|jm jj<|jS (aZd jj jj aO)<|jS (aZ8 jj fFs aO aR aO) ?_
   refine jS (bZx 1750 1760 1001 1780 1011 V1 ⟨⟨jj, Option.some_ne_none _⟩, jj, trivial⟩ jj jj fFs jj fFs oM aM) ?_
   refine jm jj<|jm jj<|jS (aZe jj)<|jF jj jj<|jS (aZx jj jj jj uG)<|jm jj<|jS (aZd jj jj aO) ?_
   refine jS (aZt jj jj aO jj aG)<|jm jj<|jS (aZd jj jj aO)<|jS (aZ8 jj fFs aO aR aO) ?_
   refine jS (bZx 1750 1760 1001 1780 1011 V2 ⟨⟨jj, Option.some_ne_none _⟩, jj, trivial⟩ jj jj fFs jj fFs oM aM) ?_
   refine jS (bLt jj jj)<|jn<|jt jj<|jr<|jm jj<|jm jj<|ja jj<|ja jj<|jn<|jr<|jm jj<|jS (bAd jj jj wO)<|ja jj<|jn ?_
   refine ⟨⟨(i + 1, i, i), oD, ⟨hin, hin⟩, by dsimp only; rw [hf2]; exact hE⟩, ?_, oD⟩
   dsimp only
   exact Sub.mk sJ (bZs rfl rfl fFs rfl fFs (fun r hr => PsLe.refl _) (fun r hr => PsLe.refl _)) (bZf oM hπ)
  ·rw [if_neg hv] at hE
   refine js<|js<|jr<|jm jj<|jm jj<|jS (aZe jj)<|jF jj jj<|jS (aZx jj jj jj uG)<|jS (aZE jj CSlice.ok)<|jS (bLt jj jj)<|jn<|jt jj<|jp<|js<|jb<|js<|jr<|jm jj<|jm jj<|jS (aZe jj)<|jF jj jj<|jS (aZx jj jj jj uG)<|jm jj<|jS (aZd jj jj aO) ?_
   refine jS (aZt jj jj aO jj aG)<|jm jj<|jS (aZd jj jj aO)<|jS (aZ8 jj fFs aO aR aO) ?_
   refine jS (bZx 1750 1760 1001 1780 1011 V1 ⟨⟨jj, Option.some_ne_none _⟩, jj, trivial⟩ jj jj fFs jj fFs oM aM) ?_
   refine jm jj<|jm jj<|jS (aZe jj)<|jF jj jj<|jS (aZx jj jj jj uG)<|jm jj<|jS (aZd jj jj aO) ?_
   refine jS (aZt jj jj aO jj aG)<|jm jj<|jS (aZd jj jj aO)<|jS (aZ8 jj fFs aO aR aO) ?_
   refine jS (bZx 1750 1760 1001 1780 1011 V2 ⟨⟨jj, Option.some_ne_none _⟩, jj, trivial⟩ jj jj fFs jj fFs oM aM) ?_
   refine jS (bLf jj jj)<|jn<|jf jj<|jp<|jr<|jm jj<|jS (bAd jj jj wO)<|ja jj<|jn ?_
   refine ⟨⟨(i + 1, a, b), oD, ⟨ha, hb⟩, by dsimp only; rw [hf2]; exact hE⟩, ?_, oD⟩
   dsimp only
   exact Sub.mk sJ (bZs rfl rfl fFs rfl fFs (fun r hr => PsLe.refl _) (fun r hr => PsLe.refl _)) (bZf oM hπ)
 ·rw [show n - i = 0 by omega] at hE
  have hE : lsD (vlZ p k) A (n - r) r (r, r) = (a, b) := hE
  rw [hE]
  refine js<|js<|jr<|jm jj<|jm jj<|jS (aZe jj)<|jF jj jj<|jS (aZx jj jj jj uG)<|jS (aZE jj CSlice.ok)<|jS (bLf jj jj)<|jn<|jf jj<|je<|js<|js<|jr<|jm jj<|ja jj<|jn<|jb ?_
  refine WpD.loop (α := {x : Nat × Nat × Nat // x.1 ≤ n ∧ (x.2.1 < n ∧ x.2.2 < n) ∧ lsO (vlZ p k) A (n - r) r (a, b) = lsO (vlZ p k) A (n - x.1) x.1 x.2}) (fun x => ⟨[(0, .ptr 1750 0), (6, .one (ex (.int .i64 (x.1.2.1 : Int)))), (7, .one (ex (.int .i64 (x.1.2.2 : Int)))), (9, .one (ex (.int .i64 (x.1.1 : Int))))], sbc (p : Int) (m : Int) (k : Int) n π (gM σ A n) t⟩) (fun x => n - x.1.1) ⟨(r, a, b), oD, ⟨ha, hb⟩, rfl⟩ ?_ ?_
  ·dsimp only
   exact Sub.mk sJ (bZs rfl rfl fFs rfl fFs (fun r hr => PsLe.refl _) (fun r hr => PsLe.refl _)) (bZf oM hπ)
  rintro ⟨⟨i', a', b'⟩, hi', ⟨ha', hb'⟩, hE'⟩
  dsimp only at hi' ha' hb' hE' ⊢
  by_cases hin' : i' < n
  ·obtain ⟨f, hf⟩ : ∃ f, n - i' = f + 1 := ⟨n - i' - 1, oM⟩
   have hf2 : n - (i' + 1) = f := oM
   rw [hf] at hE'
   have hE' : lsO (vlZ p k) A (n - r) r (a, b) = lsO (vlZ p k) A f (i' + 1) (lsR (vlZ p k) A i' f (i' + 1) (a', b')) := hE'
   have e0 : IntKind.i64.wrap ((i' : Int) + 1) = ((i' + 1 : Nat) : Int) := by rw [w64 oM oM]; rfl
   refine js<|js<|jr<|jm jj<|jm jj<|jS (aZe jj)<|jF jj jj<|jS (aZx jj jj jj uG)<|jS (aZE jj CSlice.ok)<|jS (bLt jj jj)<|jn<|jt jj<|jp<|js<|jb<|js<|jr<|jm jj<|jS (bAd jj jj e0)<|ja jj<|jn<|jb ?_
   refine WpD.loop (α := {x : Nat × Nat × Nat // x.1 ≤ n ∧ (x.2.1 < n ∧ x.2.2 < n) ∧ lsR (vlZ p k) A i' f (i' + 1) (a', b') = lsR (vlZ p k) A i' (n - x.1) x.1 x.2}) (fun x => ⟨[(0, .ptr 1750 0), (6, .one (ex (.int .i64 (x.1.2.1 : Int)))), (7, .one (ex (.int .i64 (x.1.2.2 : Int)))), (9, .one (ex (.int .i64 (i' : Int)))), (10, .one (ex (.int .i64 (x.1.1 : Int))))], sbc (p : Int) (m : Int) (k : Int) n π (gM σ A n) t⟩) (fun x => n - x.1.1) ⟨(i' + 1, a', b'), oD, ⟨ha', hb'⟩, by dsimp only; rw [hf2]⟩ ?_ ?_
   ·dsimp only
    exact Sub.mk sJ (bZs rfl rfl fFs rfl fFs (fun r hr => PsLe.refl _) (fun r hr => PsLe.refl _)) (bZf oM hπ)
   rintro ⟨⟨j, c', d'⟩, hj, ⟨hc', hd'⟩, hF⟩
   dsimp only at hj hc' hd' hF ⊢
   by_cases hjn : j < n
   ·have h8 := hπ i' hin'
    have h8' := hπ c' hc'
    have he1 := he i' hin'
    have he2 := he c' hc'
    have V1 := V i' j hin' hjn
    have V2 := V c' d' hc' hd'
    obtain ⟨g, hg⟩ : ∃ g, n - j = g + 1 := ⟨n - j - 1, oM⟩
    have hg2 : n - (j + 1) = g := oM
    rw [hg] at hF
    have hF : lsR (vlZ p k) A i' f (i' + 1) (a', b') = lsR (vlZ p k) A i' g (j + 1) (lsS (vlZ p k) A (c', d') i' j) := hF
    unfold lsS at hF
    by_cases hv : vlZ p k (A i' j) < vlZ p k (A c' d')
    ·rw [if_pos hv] at hF
     refine js<|js<|jr<|jm jj<|jm jj<|jS (aZe jj)<|jF jj jj<|jS (aZx jj jj jj uG)<|jS (aZE jj CSlice.ok)<|jS (bLt jj jj)<|jn<|jt jj<|jp<|js<|jb<|js<|jr<|jm jj<|jm jj<|jS (aZe jj)<|jF jj jj<|jS (aZx jj jj jj uG)<|jm jj<|jS (aZd jj jj aO) ?_
     refine jS (aZt jj jj aO jj aG)<|jm jj<|jS (aZd jj jj aO)<|jS (aZ8 jj fFs aO aR aO) ?_
     refine jS (bZx 1750 1760 1001 1780 1011 V1 ⟨⟨jj, Option.some_ne_none _⟩, jj, trivial⟩ jj jj fFs jj fFs oM aM) ?_
     refine jm jj<|jm jj<|jS (aZe jj)<|jF jj jj<|jS (aZx jj jj jj uG)<|jm jj<|jS (aZd jj jj aO) ?_
     refine jS (aZt jj jj aO jj aG)<|jm jj<|jS (aZd jj jj aO)<|jS (aZ8 jj fFs aO aR aO) ?_
     refine jS (bZx 1750 1760 1001 1780 1011 V2 ⟨⟨jj, Option.some_ne_none _⟩, jj, trivial⟩ jj jj fFs jj fFs oM aM) ?_
     refine jS (bLt jj jj)<|jn<|jt jj<|jr<|jm jj<|jm jj<|ja jj<|ja jj<|jn<|jr<|jm jj<|jS (bAd jj jj wO)<|ja jj<|jn ?_
     refine ⟨⟨(j + 1, i', j), oD, ⟨hin', hjn⟩, by dsimp only; rw [hg2]; exact hF⟩, ?_, oD⟩
     dsimp only
     exact Sub.mk sJ (bZs rfl rfl fFs rfl fFs (fun r hr => PsLe.refl _) (fun r hr => PsLe.refl _)) (bZf oM hπ)
    ·rw [if_neg hv] at hF
     refine js<|js<|jr<|jm jj<|jm jj<|jS (aZe jj)<|jF jj jj<|jS (aZx jj jj jj uG)<|jS (aZE jj CSlice.ok)<|jS (bLt jj jj)<|jn<|jt jj<|jp<|js<|jb<|js<|jr<|jm jj<|jm jj<|jS (aZe jj)<|jF jj jj<|jS (aZx jj jj jj uG)<|jm jj<|jS (aZd jj jj aO) ?_
     refine jS (aZt jj jj aO jj aG)<|jm jj<|jS (aZd jj jj aO)<|jS (aZ8 jj fFs aO aR aO) ?_
     refine jS (bZx 1750 1760 1001 1780 1011 V1 ⟨⟨jj, Option.some_ne_none _⟩, jj, trivial⟩ jj jj fFs jj fFs oM aM) ?_
     refine jm jj<|jm jj<|jS (aZe jj)<|jF jj jj<|jS (aZx jj jj jj uG)<|jm jj<|jS (aZd jj jj aO) ?_
     refine jS (aZt jj jj aO jj aG)<|jm jj<|jS (aZd jj jj aO)<|jS (aZ8 jj fFs aO aR aO) ?_
     refine jS (bZx 1750 1760 1001 1780 1011 V2 ⟨⟨jj, Option.some_ne_none _⟩, jj, trivial⟩ jj jj fFs jj fFs oM aM) ?_
     refine jS (bLf jj jj)<|jn<|jf jj<|jp<|jr<|jm jj<|jS (bAd jj jj wO)<|ja jj<|jn ?_
     refine ⟨⟨(j + 1, c', d'), oD, ⟨hc', hd'⟩, by dsimp only; rw [hg2]; exact hF⟩, ?_, oD⟩
     dsimp only
     exact Sub.mk sJ (bZs rfl rfl fFs rfl fFs (fun r hr => PsLe.refl _) (fun r hr => PsLe.refl _)) (bZf oM hπ)
   ·rw [show n - j = 0 by omega] at hF
    have hF : lsR (vlZ p k) A i' f (i' + 1) (a', b') = (c', d') := hF
    rw [hF] at hE'
    refine js<|js<|jr<|jm jj<|jm jj<|jS (aZe jj)<|jF jj jj<|jS (aZx jj jj jj uG)<|jS (aZE jj CSlice.ok)<|jS (bLf jj jj)<|jn<|jf jj<|je<|jr<|jm jj<|jS (bAd jj jj wO)<|ja jj<|jn ?_
    refine ⟨⟨(i' + 1, c', d'), oD, ⟨hc', hd'⟩, by dsimp only; rw [hf2]; exact hE'⟩, ?_, oD⟩
    dsimp only
    exact Sub.mk sJ (bZs rfl rfl fFs rfl fFs (fun r hr => PsLe.refl _) (fun r hr => PsLe.refl _)) (bZf oM hπ)
  ·rw [show n - i' = 0 by omega] at hE'
   have hE' : lsO (vlZ p k) A (n - r) r (a, b) = (a', b') := hE'
   rw [hE']
   refine js<|js<|jr<|jm jj<|jm jj<|jS (aZe jj)<|jF jj jj<|jS (aZx jj jj jj uG)<|jS (aZE jj CSlice.ok)<|jS (bLf jj jj)<|jn<|jf jj<|je<|js<|jr<|jm jj<|jm jj<|ja jj<|ja jj<|jn<|ji ?_
   exact retGii rfl rfl rfl (bZs rfl rfl fFs rfl fFs (fun _ _ => PsLe.refl _) (fun _ _ => PsLe.refl _)) (bZf oM hπ)
end
end
section
open Go.RowKit Limb Det Num
def oneC (m r q : Nat) (u : Int) (j : Nat) (A : Nat → Nat → Int) : Int := -((A r j / (q : Int) * u) % ((m / q : Nat) : Int))
def oneL (m n r q : Nat) (u : Int) : Nat → Nat → (Nat → Nat → Int) × (Nat → Nat → Int) → (Nat → Nat → Int) × (Nat → Nat → Int)
 | 0, _, x => x
 | f + 1, j, x => oneL m n r q u f (j + 1) (addM m (oneC m r q u j x.1) r j n x.1, colA m (oneC m r q u j x.1) r j n x.2)
def pvQ (p k : Nat) (A : Nat → Nat → Int) (r : Nat) : Nat := p ^ vlZ p k (A r r)
def pvU (p k m : Nat) (A : Nat → Nat → Int) (r : Nat) : Int := rcp ((A r r).toNat / pvQ p k A r) (m / pvQ p k A r)
def oneM (p k m n r : Nat) (x : (Nat → Nat → Int) × (Nat → Nat → Int)) : (Nat → Nat → Int) × (Nat → Nat → Int) := oneL m n r (pvQ p k x.1 r) (pvU p k m x.1 r) (n - (r + 1)) (r + 1) x
def blkP (e : Nat) (a : Int) : List Pd := [ex (.int .i64 (e : Int)), ex (.int .i64 1), ex (.int .i64 a), ex (.int .i64 0), ex (.int .i64 0)]
def oneB (p k m n r : Nat) (x : (Nat → Nat → Int) × (Nat → Nat → Int)) : List Pd := blkP (vlZ p k (x.1 r r)) ((oneM p k m n r x).1 r r / (pvQ p k x.1 r : Int))
theorem pZM {p k m n : Nat} {A : Nat → Nat → Int} (hp : 2 ≤ p) (hm : m = p ^ k) (hA : MB n m A) {r x : Nat} (hr : r < n) (hx : x < n) : vlZ p k (A r x) ≤ k := by
 unfold vlZ valN
 split
 ·exact Nat.le_refl k
 ·rename_i h
  have := hA r x hr hx
  exact Nat.le_of_lt (expo_lt hp h (by rw [← hm]; omega))
theorem pvQ_le {p k m n : Nat} {A : Nat → Nat → Int} (hp : 2 ≤ p) (hm : m = p ^ k) (hA : MB n m A) {r : Nat} (hr : r < n) : 1 ≤ pvQ p k A r ∧ pvQ p k A r ≤ m := by
 unfold pvQ
 refine ⟨Nat.pow_pos oM, ?_⟩
 rw [hm]
 exact Nat.pow_le_pow_right oM (pZM hp hm hA hr hr)
theorem tdivZ {a : Int} {q : Nat} (h : 0 ≤ a) : a.tdiv (q : Int) = a / (q : Int) := Int.tdiv_eq_ediv_of_nonneg h
section
variable (En : Ev)
set_option maxHeartbeats 1000000 in
theorem hone (p m k n r : Nat) (π σ : Nat → Nat) (A T : Nat → Nat → Int) (hP : Pm n π σ) (hn : n ≤ 8) (hr : r < n) (hp : 2 ≤ p) (hp2 : p ≤ 4294967296) (hm : m = p ^ k) (hm2 : m ≤ 2147483648) (hA : MB n m A) (hT : MB n m T) : FnG Tryz.prog En 88 [.ptr 1750 0, .one (ex (.int .i64 (r : Int)))] (sbc (p : Int) (m : Int) (k : Int) n π (gM σ A n) (aZy T n n)) (.one (aggP (oneB p k m n r (A, T)))) (sbc (p : Int) (m : Int) (k : Int) n π (gM σ (oneM p k m n r (A, T)).1 n) (aZy (oneM p k m n r (A, T)).2 n n)) := by
 have hπ := hP.lt8 hn
 have hm1 : 1 ≤ m := by rw [hm]; exact Nat.pow_pos oM
 have h8 := hπ r hr
 have hrr := hA r r hr hr
 obtain ⟨hq1, hq2⟩ := pvQ_le hp hm hA hr
 have hmq : 1 ≤ m / pvQ p k A r := Nat.div_pos hq2 hq1
 have hmq2 : m / pvQ p k A r ≤ m := Nat.div_le_self _ _
 have hk : vlZ p k (A r r) ≤ k := pZM hp hm hA hr hr
 have hkm : k < m := by rw [hm]; exact Nat.lt_pow_self hp
 have C1 := qZz En p k (A r r).toNat n (m : Int) π (gM σ A n) (aZy T n n) hn hπ hp hp2 oM
 rw [Int.toNat_of_nonneg hrr.1] at C1
 have C2 := qZ0 En p (vlZ p k (A r r)) oM (Nat.le_trans hq2 oM) oM
 have hdl : (A r r).toNat / pvQ p k A r ≤ (A r r).toNat := Nat.div_le_self _ _
 have C3 := iZL En ((A r r).toNat / pvQ p k A r) (m / pvQ p k A r) hmq oM oM
 have hub := rcp_bd (a := (A r r).toNat / pvQ p k A r) hmq
 unfold oneB oneM
 dsimp only
 have hU : rcp ((A r r).toNat / pvQ p k A r) (m / pvQ p k A r) = pvU p k m A r := rfl
 rw [hU] at C3 hub
 have hQ : p ^ vlZ p k (A r r) = pvQ p k A r := rfl
 have hV : valN p k (A r r).toNat = vlZ p k (A r r) := rfl
 rw [hQ] at C2
 rw [hV] at C1
 have e1 : IntKind.i64.wrap ((A r r).tdiv (pvQ p k A r : Int)) = (((A r r).toNat / pvQ p k A r : Nat) : Int) := by
  rw [show A r r = (((A r r).toNat : Nat) : Int) by omega, eZO, Int.toNat_natCast]
  generalize (A r r).toNat / pvQ p k A r = z at *
  exact w64 oM oM
 have e2 : IntKind.i64.wrap ((m : Int).tdiv (pvQ p k A r : Int)) = ((m / pvQ p k A r : Nat) : Int) := by
  rw [eZO]
  generalize m / pvQ p k A r = z at *
  exact w64 oM oM
 have e3 := wS r oM
 generalize vlZ p k (A r r) = e at *
 generalize pvU p k m A r = u at *
 generalize pvQ p k A r = q at *
 have hq0 : (q : Int) ≠ 0 := oM
 have hmq0 : ((m / q : Nat) : Int) ≠ 0 := by generalize m / q = z at *; omega
 have he : gM σ A n (π r) = outL (fun x => ex (.int .i64 (A r x))) n := iZO hP hr fun x _ => rfl
 refine aZr Tryz.func88 rfl Tryz.ntmps88 rfl ?_
 intro w0 h0 c
 refine js<|jr<|jA jj jj jj<|jn<|js<|jr<|jm jj<|jm jj<|jS (aZe jj)<|jF jj jj<|jS (aZx jj jj jj uG)<|jm jj<|jS (aZd jj jj aO) ?_
 refine jS (aZt jj jj aO jj aG)<|jm jj<|jS (aZd jj jj aO)<|jS (aZ8 jj fFs aO aR aO) ?_
 refine jS (bZx 1750 1760 1001 1780 1011 C1 ⟨⟨jj, Option.some_ne_none _⟩, jj, trivial⟩ jj jj fFs jj fFs oM aM) ?_
 refine ja jj<|jn<|js<|jr<|jm jj<|jS (aZe jj)<|jF jj jj<|jS (bZZ jj jj jj)<|jm jj<|jS (aZa C2 tB)<|ja jj<|jn<|js<|jr<|jm jj<|jS (aZe jj)<|jF jj jj<|jS (aZx jj jj jj uG)<|jm jj<|jS (aZd jj jj aO) ?_
 refine jS (aZt jj jj aO jj aG)<|jm jj<|jS (aZd jj jj aO)<|jS (aZ8 jj fFs aO aR aO) ?_
 refine jm jj<|jS (bQu jj jj e1)<|jm jj<|jS (aZe jj)<|jF jj jj<|jS (bZZ jj jj jj)<|jm jj<|jS (bQu jj jj e2)<|jS (aZa C3 tB)<|jm jj<|jx' jj jj<|jx' jj jj<|ja jj<|ja jj<|jn<|js<|js<|jr<|jm jj<|jS (bAd jj jj e3)<|ja jj<|jn<|jb ?_
 refine WpD.loop (α := {x : Nat × (Nat → Nat → Int) × (Nat → Nat → Int) // x.1 ≤ n ∧ r < x.1 ∧ (MB n m x.2.1 ∧ MB n m x.2.2) ∧ oneL m n r q u (n - (r + 1)) (r + 1) (A, T) = oneL m n r q u (n - x.1) x.1 x.2}) (fun x => ⟨[(0, .ptr 1750 0), (1, .one (ex (.int .i64 (r : Int)))), (4, .ptr 4 0), (5, .one (ex (.int .i64 (e : Int)))), (6, .one (ex (.int .i64 (q : Int)))), (7, .one (ex (.int .i64 u))), (9, .one (ex (.int .i64 (x.1.1 : Int))))], (4, [ex (.int .i64 0), ex (.int .i64 0), ex (.int .i64 0), ex (.int .i64 0), ex (.int .i64 0)]) :: sbc (p : Int) (m : Int) (k : Int) n π (gM σ x.1.2.1 n) (aZy x.1.2.2 n n)⟩) (fun x => n - x.1.1) ⟨(r + 1, A, T), oD, oD, ⟨hA, hT⟩, rfl⟩ ?_ ?_
 ·dsimp only
  exact Sub.mk sJ ⟨.inl pQ, bZs rfl rfl fFs rfl fFs (fun _ _ => PsLe.refl _) (fun _ _ => PsLe.refl _)⟩ (jZZ oM hπ)
 rintro ⟨⟨j, B, S⟩, hj, hrj, ⟨hB, hS⟩, hE⟩
 dsimp only at hj hrj hB hS hE ⊢
 have heB : gM σ B n (π r) = outL (fun x => ex (.int .i64 (B r x))) n := iZO hP hr fun x _ => rfl
 by_cases hjn : j < n
 ·obtain ⟨f, hf⟩ : ∃ f, n - j = f + 1 := ⟨n - j - 1, oM⟩
  have hf2 : n - (j + 1) = f := oM
  rw [hf, oneL] at hE
  dsimp only at hE
  have hbj := hB r j hr hjn
  have hbd : 0 ≤ B r j / (q : Int) ∧ B r j / (q : Int) ≤ B r j := ⟨Int.ediv_nonneg hbj.1 oM, Int.ediv_le_self _ hbj.1⟩
  have g1 : IntKind.i64.wrap ((B r j).tdiv (q : Int)) = B r j / (q : Int) := by
   rw [tdivZ hbj.1]; exact w64 oM oM
  have hmul : 0 ≤ B r j / (q : Int) * u ∧ B r j / (q : Int) * u ≤ 2147483648 * 2147483648 := ⟨Int.mul_nonneg hbd.1 hub.1, Int.mul_le_mul oM (by generalize m / q = z at *; omega) hub.1 oM⟩
  have g2 : IntKind.i64.wrap (B r j / (q : Int) * u) = B r j / (q : Int) * u := w64 oM oM
  have g3 : (B r j / (q : Int) * u).tmod ((m / q : Nat) : Int) = (B r j / (q : Int) * u) % ((m / q : Nat) : Int) := Int.tmod_eq_emod_of_nonneg hmul.1
  have hmd : 0 ≤ (B r j / (q : Int) * u) % ((m / q : Nat) : Int) ∧ (B r j / (q : Int) * u) % ((m / q : Nat) : Int) < ((m / q : Nat) : Int) := ⟨Int.emod_nonneg _ hmq0, Int.emod_lt_of_pos _ (by generalize m / q = z at *; omega)⟩
  have hcb : (oneC m r q u j B).natAbs ≤ 2147483648 ∧ IntKind.i64.wrap (-((B r j / (q : Int) * u) % ((m / q : Nat) : Int))) = oneC m r q u j B := by
   unfold oneC
   generalize (B r j / (q : Int) * u) % ((m / q : Nat) : Int) = z at *
   generalize m / q = z2 at *
   exact ⟨oM, w64 oM oM⟩
  have CA := hadd En p m k n r j (oneC m r q u j B) π σ B S hP hn hr hjn oM hm1 hm2 hcb.1 hB hS
  refine js<|js<|jr<|jm jj<|jm jj<|jS (aZe jj)<|jF jj jj<|jS (aZx jj jj jj uG)<|jS (aZE jj CSlice.ok)<|jS (bLt jj jj)<|jn<|jt jj<|jp<|js<|jb<|jr<|jm jj<|jm jj<|jS (aZe jj)<|jF jj jj<|jS (aZx jj jj jj uG)<|jm jj<|jS (aZd jj jj aO) ?_
  refine jS (aZt jj jj aO jj aG)<|jm jj<|jS (aZd jj jj aO)<|jS (aZ8 jj fFs aO aR aO) ?_
  refine jm jj<|jS (bQu jj jj g1)<|jm jj<|jS (bMu jj jj g2)<|jm jj<|jS (aZe jj)<|jF jj jj<|jS (bZZ jj jj jj)<|jm jj<|jS (bQu jj jj e2)<|jS (bRe jj jj g3)<|jS (cZS jj (fun w => cZ0 w _ _) (vint hcb.2))<|jm jj<|jm jj<|RG.SW (LT.plain jj (cZR 1750 1760 1001 1780 1011 CA ⟨⟨jj, Option.some_ne_none _⟩, jj, jj, jj, trivial⟩ jj jj fFs jj fFs oM aM aM)) jj ?_
  refine jn<|jr<|jm jj<|jS (bAd jj jj wO)<|ja jj<|jn ?_
  refine ⟨⟨(j + 1, addM m (oneC m r q u j B) r j n B, colA m (oneC m r q u j B) r j n S), oD, oD, ⟨hB.addM hm1 _ _ _, hS.colA hm1 _ _ _ _⟩, by dsimp only; rw [hf2]; exact hE⟩, ?_, oD⟩
  dsimp only
  exact Sub.mk sJ ⟨.inl pQ, bZs rfl rfl fFs rfl fFs (fun _ _ => PsLe.refl _) (fun _ _ => PsLe.refl _)⟩ (jZZ oM hπ)
 ·have hjn2 : j = n := oM
  subst hjn2
  rw [Nat.sub_self] at hE
  have hE : oneL m j r q u (j - (r + 1)) (r + 1) (A, T) = (B, S) := hE
  rw [hE]
  have hbj := hB r r hr hr
  have hbd : 0 ≤ B r r / (q : Int) ∧ B r r / (q : Int) ≤ B r r := ⟨Int.ediv_nonneg hbj.1 oM, Int.ediv_le_self _ hbj.1⟩
  have g1 : IntKind.i64.wrap ((B r r).tdiv (q : Int)) = B r r / (q : Int) := by
   rw [tdivZ hbj.1]; exact w64 oM oM
  refine js<|js<|jr<|jm jj<|jm jj<|jS (aZe jj)<|jF jj jj<|jS (aZx jj jj jj uG)<|jS (aZE jj CSlice.ok)<|jS (bLf jj jj)<|jn<|jf jj<|je<|js<|jr<|jm jj<|jm jj<|jS (aZe jj)<|jF jj jj<|jS (aZx jj jj jj uG)<|jm jj<|jS (aZd jj jj aO) ?_
  refine jS (aZt jj jj aO jj aG)<|jm jj<|jS (aZd jj jj aO)<|jS (aZ8 jj fFs aO aR aO) ?_
  refine jm jj<|jS (bQu jj jj g1)<|jS (aZj (ps := [(_, _), (_, _), (_, _)]) ⟨jj, Part.c jj, jj, Part.c jj, jj, Part.c jj, trivial⟩ jj)<|jP jj jj jj jj<|jn<|ji ?_
  exact retGc rfl rfl rfl (bZs rfl rfl fFs rfl fFs (fun _ _ => PsLe.refl _) (fun _ _ => PsLe.refl _)) (bZf oM hπ)
end
end
end Go.Proofs.YtfmjdlogjmofbaaGreatDoor

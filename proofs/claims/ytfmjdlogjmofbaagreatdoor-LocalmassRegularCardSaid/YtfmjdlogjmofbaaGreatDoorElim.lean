/- Products of matrices. -/
import Derived.Test.YtfmjdlogjmofbaaGreatDoorMem
import Derived.Test.YtfmjdlogjmofbaaGreatDoorGa
import Derived.Test.YtfmjdlogjmofbaaGreatDoorW
set_option maxRecDepth 3000
namespace Go.Proofs.YtfmjdlogjmofbaaGreatDoor
open Go.RowKit Limb
theorem cnorm (En : Ev) (a : Int) (ha : zl a ≤ 1099511627776) : Fn Tryz.prog En 108 [zC a] (zC a) := by
 have := znorm En (decide (a < 0)) (digs a.natAbs) ha
 rwa [zv_C] at this
def ZL (A : Nat → Nat → Int) (n m K : Nat) : Prop := ∀ i j, i < n → j < m → zl (A i j) ≤ K
def sumZ (f : Nat → Int) : Nat → Int
 | 0 => 0
 | n + 1 => sumZ f n + f n
theorem cZq {f g : Nat → Int} : ∀ {n : Nat}, (∀ i, i < n → f i = g i) → sumZ f n = sumZ g n
 | 0, _ => rfl
 | n + 1, h => by rw [sumZ, sumZ, cZq fun i hi => h i oM, h n oM]
theorem jZe {f : Nat → Int} {K : Nat} : ∀ {n : Nat}, (∀ i, i < n → zl (f i) ≤ K) → zl (sumZ f n) ≤ K + n
 | 0, _ => by
  have : zl 0 = 0 := by decide
  rw [sumZ, this]; omega
 | n + 1, h => by
  have h1 := jZe fun i (hi : i < n) => h i oM
  have h2 := h n oM
  have h3 := eZ8 (sumZ f n) (f n)
  rw [sumZ]; omega
def trM (A : Nat → Nat → Int) : Nat → Nat → Int := fun i j => A j i
def mulM (A B : Nat → Nat → Int) (k : Nat) : Nat → Nat → Int := fun i j => sumZ (fun c => A i c * B c j) k
section
variable (En : Ev)
theorem fZt (A : Nat → Nat → Int) (n m K : Nat) (hn : 1 ≤ n) (hn8 : n ≤ 8) (hm : 1 ≤ m) (hm8 : m ≤ 8) (hK : K ≤ 1099511627776) (hA : ZL A n m K) : Fn Tryz.prog En 118 [zmt A n m] (tupP [zmt (trM A) m n, ex (.bool true)]) := by
 have CS := jZO En A n m hn hn8 hm hm8
 have CZ := oZ4 En m n hm8 hn8
 refine aZb Tryz.func118 rfl Tryz.ntmps118 rfl ?_
 intro w0 h0
 refine js<|jr<|ja jj<|ja jj<|jn<|js<|jr<|jm jj<|jS (aZa CS ⟨jj, trivial⟩)<|jm jj<|jx' jj jj<|jx' jj jj<|jx' jj jj<|ja jj<|ja jj<|ja jj<|jn<|js<|js<|jr<|jm jj<|jS (bNo jj)<|jn<|jf jj<|jp<|js<|jr<|jm jj<|jm jj<|RG.SW (LT.plain jj (cZ1 400 200 CZ ⟨jj, jj, trivial⟩ (by intro i hi; omega) jj)) jj<|ja jj<|jn<|js<|js<|jr<|jm jj<|jE jj<|jm jj<|jn<|jb ?_
 refine WpD.loop (α := {k : Nat // k ≤ n}) (fun k => ⟨[(0, .one (zmt A n m)), (7, .own 400 0 m m), (22, .one (ex (.int .i64 (n : Int)))), (23, .one (ex (.int .i64 (k.1 : Int))))], (400, outL (fun j => ownP (200 + j) 0 n n) m) :: rws 200 (bZq (fun r c => if c < k.1 then A c r else 0) m n)⟩) (fun k => n - k.1) ⟨0, Nat.zero_le _⟩ ?_ ?_
 ·dsimp only
  exact Sub.mk sJ ⟨.inl pQ, subBx.fam fFm (fun r _ => PsLe.of (congrFun (aZB fun a b _ _ => (by simp)) r)) trivial⟩ (LKeep.all ⟨.inr (aZp (π := fun i => i) (Fam.live fFm) oM oM), lkAll.fam rfl trivial⟩)
 rintro ⟨k, hk⟩
 dsimp only
 by_cases hkn : k < n
 ·refine js<|jr<|jS (bLt jj jj)<|jn<|js<|jt jj<|jp<|js<|jb<|js<|jr<|jm jj<|ja jj<|jn<|js<|jr<|jm jj<|jm jj<|jS (bZb jj jj aO)<|jS (aZh jj jj)<|jE jj<|jm jj<|jn<|jb ?_
  refine WpD.loop (α := {j : Nat // j ≤ m}) (fun j => ⟨[(0, .one (zmt A n m)), (7, .own 400 0 m m), (8, .one (ex (.int .i64 (k : Int)))), (22, .one (ex (.int .i64 (n : Int)))), (23, .one (ex (.int .i64 (k : Int)))), (30, .one (ex (.int .i64 (m : Int)))), (31, .one (ex (.int .i64 (j.1 : Int))))], (400, outL (fun j => ownP (200 + j) 0 n n) m) :: rws 200 (bZq (fun r c => if c < k ∨ c = k ∧ r < j.1 then A c r else 0) m n)⟩) (fun j => m - j.1) ⟨0, Nat.zero_le _⟩ ?_ ?_
  ·dsimp only
   exact Sub.mk sJ ⟨.inl pQ, subBx.fam fFm (fun r _ => PsLe.of (congrFun (aZB fun a b _ _ => (by by_cases h : b < k <;> simp [h])) r)) trivial⟩ (LKeep.all ⟨.inr (aZp (π := fun i => i) (Fam.live fFm) oM oM), lkAll.fam rfl trivial⟩)
  rintro ⟨j, hj⟩
  dsimp only
  by_cases hjm : j < m
  ·have C1 := cnorm En (A k j) (Nat.le_trans (hA k j hkn hjm) hK)
   have he : bZq (fun r c => if c < k ∨ c = k ∧ r < j then A c r else 0) m n j = rowL (fun c => aZL (if c < k ∨ c = k ∧ j < j then A c j else 0)) n := aZ4 hjm
   refine js<|jr<|jS (bLt jj jj)<|jn<|js<|jt jj<|jp<|js<|jb<|js<|jr<|jm jj<|ja jj<|jn<|jr<|jm jj<|jm jj<|jS (aZd jj jj aO) ?_
   refine jS (aZt jj jj aO jj aG)<|jm jj<|jm jj<|jm jj<|jS (bZb jj jj aO)<|jS (aZh jj jj)<|jm jj<|jS (bZm jj jj aO (fun _ _ => jj))<|jS (aZq jj jj jj)<|jS (aZa C1 ⟨jj, trivial⟩)<|jS (aZd jj jj aO)<|RG.NW (LT.plain jj (eZp jj jj fFm aO aR aO (fun _ _ => jj))) jj ?_
   refine jn<|jr<|jS (bAd jj jj wO)<|jm jj<|jn ?_
   refine ⟨⟨j + 1, oM⟩, ?_, oD⟩
   dsimp only
   refine Sub.mk ?_ ⟨.inl pQ, subBx.fam fFm (fun r _ => PsLe.of (congrFun ((cZG hjm).trans (aZB fun a b _ _ => ?_)) r)) trivial⟩ (LKeep.all ⟨.inr (aZp (π := fun i => i) (Fam.live fFm) oM oM), lkAll.fam rfl trivial⟩)
   ·repeat (first | exact trivial | refine jv rfl ?_ | refine jw rfl (js0 rfl) ?_)
   unfold upm
   by_cases h1 : a = j ∧ b = k
   ·obtain ⟨rfl, rfl⟩ := h1
    rw [if_pos ⟨rfl, rfl⟩, if_pos oM]
   ·rw [if_neg h1]
    dsimp only
    by_cases h3 : b < k ∨ b = k ∧ a < j
    ·rw [if_pos h3, if_pos oM]
    ·rw [if_neg h3, if_neg oM]
  ·refine js<|jr<|jS (bLf jj jj)<|jn<|js<|jf jj<|je<|jr<|jS (bAd jj jj wO)<|jm jj<|jn ?_
   refine ⟨⟨k + 1, oM⟩, ?_, oD⟩
   dsimp only
   refine Sub.mk ?_ ⟨.inl pQ, subBx.fam fFm (fun r _ => PsLe.of (congrFun (aZB fun a b _ _ => ?_) r)) trivial⟩ (LKeep.all ⟨.inr (aZp (π := fun i => i) (Fam.live fFm) oM oM), lkAll.fam rfl trivial⟩)
   ·repeat (first | exact trivial | refine jv rfl ?_ | refine jw rfl (js0 rfl) ?_)
   by_cases h : b < k ∨ b = k ∧ a < j
   ·rw [if_pos h, if_pos oM]
   ·rw [if_neg h, if_neg oM]
 ·have e : k = n := oM
  subst e
  refine js<|jr<|jS (bLf jj jj)<|jn<|js<|jf jj<|je<|js ?_
  refine WpD.sub (τ := ⟨[(7, .one (zmt (trM A) m k))], []⟩) (Sub.pubX 400 200 (fun i c => aZL (trM A i c)) (π := fun i => i) rfl fFm rfl oM (fun r hr => ?_) (fun _ _ _ _ => rfl) ⟨.inr ⟨rfl, rfl⟩, trivial⟩ trivial rfl) ?_
  ·rw [aZ4 hr]
   exact aZG fun c hc => by dsimp only; rw [if_pos hc]; rfl
  refine kO ?_
  refine jr<|jm jj<|ja jj<|ja jj<|jn<|ji ?_
  exact ret2 rfl (.tmp rfl) (.tmp rfl) (PLe.refl _)
def zsl (f : Nat → Int) (n : Nat) : Pd := slc 2 (zRow f n) n
instance (f : Nat → Int) (n : Nat) : CLen (zsl f n) n := by unfold zsl; exact inferInstance
instance (f : Nat → Int) (n : Nat) : C1 (zsl f n) := ⟨fun _ _ ⟨_, _, h, _⟩ => by rw [h]; rfl⟩
theorem mdot (f g : Nat → Int) (n K : Nat) (hn : n ≤ 16) (hK : K ≤ 268435456) (hf : ∀ i, i < n → zl (f i) ≤ K) (hg : ∀ i, i < n → zl (g i) ≤ K) : Fn Tryz.prog En 160 [zsl f n, zsl g n] (zC (sumZ (fun c => f c * g c) n)) := by
 refine aZb Tryz.func160 rfl Tryz.ntmps160 rfl ?_
 intro w0 h0
 refine js<|jr<|jA jj jj jj<|jn<|js<|jr<|jS (aZj (ps := []) trivial jj)<|jA jj jj jj<|jP jj jj jj jj<|jn<|js<|js<|jr<|jm jj<|jE jj<|jm jj<|jn<|jb ?_
 refine WpD.loop (α := {i : Nat // i ≤ n}) (fun i => ⟨[(0, .one (zsl f n)), (1, .one (zsl g n)), (4, .ptr 4 0), (5, .ptr 5 0), (9, .one (ex (.int .i64 (n : Int)))), (10, .one (ex (.int .i64 (i.1 : Int))))], [(5, aZL (sumZ (fun c => f c * g c) i.1)), (4, [ex (.bool false), ex (.slice none 0 0)])]⟩) (fun i => n - i.1) ⟨0, Nat.zero_le _⟩ ?_ ?_
 ·dsimp only
  exact Sub.mk sJ ⟨.inl ⟨_, jj, fZM⟩, .inl pQ, trivial⟩
 rintro ⟨i, hi⟩
 dsimp only
 by_cases hin : i < n
 ·have k1 := hf i hin
  have k2 := hg i hin
  have k3 := bZh (f i) (g i)
  have k4 : zl (sumZ (fun c => f c * g c) i) ≤ 2 * K + i := jZe fun c hc => by
   have := bZh (f c) (g c)
   have := hf c oM
   have := hg c oM
   omega
  have C1 := cmul En (f i) (g i) oM oM
  have C2 := cadd En (sumZ (fun c => f c * g c) i) (f i * g i) (by show zl _ ≤ _; omega) (by show zl _ ≤ _; omega)
  refine js<|jr<|jS (bLt jj jj)<|jn<|js<|jt jj<|jp<|js<|jb<|js<|jr<|jm jj<|ja jj<|jn<|jr<|jL jj jj jj<|jm jj<|jm jj<|jS (bZm jj jj aO (fun _ _ => jj))<|jS (aZq jj jj jj)<|jm jj<|jm jj<|jS (bZm jj jj aO (fun _ _ => jj))<|jS (aZq jj jj jj)<|jS (aZa C1 ⟨jj, jj, trivial⟩)<|jS (aZa C2 ⟨jj, jj, trivial⟩)<|jP jj jj jj jj<|jn<|jr<|jS (bAd jj jj wO)<|jm jj<|jn ?_
  refine ⟨⟨i + 1, oM⟩, ?_, oD⟩
  dsimp only
  exact Sub.mk sJ sJ
 ·have e : i = n := oM
  subst e
  refine js<|jr<|jS (bLf jj jj)<|jn<|js<|jf jj<|je<|js<|jr<|jL jj jj jj<|jP jj jj jj jj<|jn<|ji ?_
  exact rtC rfl jj jj
theorem mmul (A B : Nat → Nat → Int) (n k m K : Nat) (hn : 1 ≤ n) (hn8 : n ≤ 8) (hk : 1 ≤ k) (hk8 : k ≤ 8) (hm : 1 ≤ m) (hm8 : m ≤ 8) (hK : K ≤ 268435456) (hA : ZL A n k K) (hB : ZL B k m K) : Fn Tryz.prog En 119 [zmt A n k, zmt B k m] (tupP [zmt (mulM A B k) n m, ex (.bool true)]) := by
 have CS := jZO En A n k hn hn8 hk hk8
 have CT := fZt En B k m K hk hk8 hm hm8 oM hB
 have CZ := oZ4 En n m hn8 hm8
 have b5 : ((k : Int) != (k : Int)) = false := by simp
 refine aZb Tryz.func119 rfl Tryz.ntmps119 rfl ?_
 intro w0 h0
 refine js<|jr<|ja jj<|ja jj<|jn<|js<|jr<|jm jj<|jS (aZa CS tA)<|jm jj<|jx' jj jj<|jx' jj jj<|jx' jj jj<|ja jj<|ja jj<|ja jj<|jn<|js<|jr<|jm jj<|jS (aZa CT tA)<|jm jj<|jx' jj jj<|jx' jj jj<|ja jj<|ja jj<|jn<|js<|js<|jr<|jm jj<|jS (bNo jj)<|jm jj (jgm jj (jg (bNo jj) (jQ jj jj (jm jj (jgm jj (jg (bZo jj CSlice.ok) (jgm jj (jg (bVn jj jj b5) (jQ jj jj (jn ?_))))))))))
 refine jf jj<|jp<|js<|jr<|jm jj<|jE jj<|jm jj<|jE jj<|RG.SW (LT.plain jj (cZ1 400 200 CZ tB (by intro i hi; omega) jj)) jj<|ja jj<|jn<|js<|js<|jr<|jm jj<|jE jj<|jm jj<|jn<|jb ?_
 refine WpD.loop (α := {i : Nat // i ≤ n}) (fun i => ⟨[(0, .one (zmt A n k)), (9, .one (zmt (trM B) m k)), (11, .own 400 0 n n), (43, .one (ex (.int .i64 (n : Int)))), (44, .one (ex (.int .i64 (i.1 : Int))))], (400, outL (fun j => ownP (200 + j) 0 m m) n) :: rws 200 (bZq (fun r c => if r < i.1 then mulM A B k r c else 0) n m)⟩) (fun i => n - i.1) ⟨0, Nat.zero_le _⟩ ?_ ?_
 ·dsimp only
  exact Sub.mk sJ ⟨.inl pQ, subBx.fam fFm (fun r _ => PsLe.of (congrFun (aZB fun a b _ _ => (by simp)) r)) trivial⟩ (LKeep.all ⟨.inr (aZp (π := fun i => i) (Fam.live fFm) oM oM), lkAll.fam rfl trivial⟩)
 rintro ⟨i, hi⟩
 dsimp only
 by_cases hin : i < n
 ·refine js<|jr<|jS (bLt jj jj)<|jn<|js<|jt jj<|jp<|js<|jb<|js<|jr<|jm jj<|ja jj<|jn<|js<|jr<|jm jj<|jE jj<|jm jj<|jn<|jb ?_
  refine WpD.loop (α := {j : Nat // j ≤ m}) (fun j => ⟨[(0, .one (zmt A n k)), (9, .one (zmt (trM B) m k)), (11, .own 400 0 n n), (12, .one (ex (.int .i64 (i : Int)))), (43, .one (ex (.int .i64 (n : Int)))), (44, .one (ex (.int .i64 (i : Int)))), (48, .one (ex (.int .i64 (m : Int)))), (49, .one (ex (.int .i64 (j.1 : Int))))], (400, outL (fun j => ownP (200 + j) 0 m m) n) :: rws 200 (bZq (fun r c => if r < i ∨ r = i ∧ c < j.1 then mulM A B k r c else 0) n m)⟩) (fun j => m - j.1) ⟨0, Nat.zero_le _⟩ ?_ ?_
  ·dsimp only
   exact Sub.mk sJ ⟨.inl pQ, subBx.fam fFm (fun r _ => PsLe.of (congrFun (aZB fun a b _ _ => (by by_cases h : a < i <;> simp [h])) r)) trivial⟩ (LKeep.all ⟨.inr (aZp (π := fun i => i) (Fam.live fFm) oM oM), lkAll.fam rfl trivial⟩)
  rintro ⟨j, hj⟩
  dsimp only
  by_cases hjm : j < m
  ·have C1 : Fn Tryz.prog En 160 [zsl (A i) k, zsl (trM B j) k] (zC (mulM A B k i j)) := mdot En (A i) (trM B j) k K oM hK (fun c hc => hA i c hin hc) (fun c hc => hB c j hc hjm)
   have he : bZq (fun r c => if r < i ∨ r = i ∧ c < j then mulM A B k r c else 0) n m i = rowL (fun c => aZL (if i < i ∨ i = i ∧ c < j then mulM A B k i c else 0)) m := aZ4 hin
   refine js<|jr<|jS (bLt jj jj)<|jn<|js<|jt jj<|jp<|js<|jb<|js<|jr<|jm jj<|ja jj<|jn<|jr<|jm jj<|jm jj<|jS (aZd jj jj aO) ?_
   refine jS (aZt jj jj aO jj aG)<|jm jj<|jm jj<|jm jj<|jS (bZb jj jj aO)<|jS (aZh jj jj)<|jm jj<|jm jj<|jS (bZb jj jj aO)<|jS (aZh jj jj)<|jS (aZa C1 tB)<|jS (aZd jj jj aO)<|RG.NW (LT.plain jj (eZp jj jj fFm aO aR aO (fun _ _ => jj))) jj ?_
   refine jn<|jr<|jS (bAd jj jj wO)<|jm jj<|jn ?_
   refine ⟨⟨j + 1, oM⟩, ?_, oD⟩
   dsimp only
   refine Sub.mk ?_ ⟨.inl pQ, subBx.fam fFm (fun r _ => PsLe.of (congrFun ((cZG hin).trans (aZB fun a b _ _ => ?_)) r)) trivial⟩ (LKeep.all ⟨.inr (aZp (π := fun i => i) (Fam.live fFm) oM oM), lkAll.fam rfl trivial⟩)
   ·repeat (first | exact trivial | refine jv rfl ?_ | refine jw rfl (js0 rfl) ?_)
   unfold upm
   by_cases h1 : a = i ∧ b = j
   ·obtain ⟨rfl, rfl⟩ := h1
    rw [if_pos ⟨rfl, rfl⟩, if_pos oM]
   ·rw [if_neg h1]
    dsimp only
    by_cases h3 : a < i ∨ a = i ∧ b < j
    ·rw [if_pos h3, if_pos oM]
    ·rw [if_neg h3, if_neg oM]
  ·refine js<|jr<|jS (bLf jj jj)<|jn<|js<|jf jj<|je<|jr<|jS (bAd jj jj wO)<|jm jj<|jn ?_
   refine ⟨⟨i + 1, oM⟩, ?_, oD⟩
   dsimp only
   refine Sub.mk ?_ ⟨.inl pQ, subBx.fam fFm (fun r _ => PsLe.of (congrFun (aZB fun a b _ _ => ?_) r)) trivial⟩ (LKeep.all ⟨.inr (aZp (π := fun i => i) (Fam.live fFm) oM oM), lkAll.fam rfl trivial⟩)
   ·repeat (first | exact trivial | refine jv rfl ?_ | refine jw rfl (js0 rfl) ?_)
   by_cases h : a < i ∨ a = i ∧ b < j
   ·rw [if_pos h, if_pos oM]
   ·rw [if_neg h, if_neg oM]
 ·have e : i = n := oM
  subst e
  refine js<|jr<|jS (bLf jj jj)<|jn<|js<|jf jj<|je<|js ?_
  refine WpD.sub (τ := ⟨[(11, .one (zmt (mulM A B k) i m))], []⟩) (Sub.pubX 400 200 (fun i c => aZL (mulM A B k i c)) (π := fun i => i) rfl fFm rfl oM (fun r hr => ?_) (fun _ _ _ _ => rfl) ⟨.inr ⟨rfl, rfl⟩, trivial⟩ trivial rfl) ?_
  ·rw [aZ4 hr]
   exact aZG fun c _ => by dsimp only; rw [if_pos hr]
  refine kO ?_
  refine jr<|jm jj<|ja jj<|ja jj<|jn<|ji ?_
  exact ret2 rfl (.tmp rfl) (.tmp rfl) (PLe.refl _)
theorem eZT (A B : Nat → Nat → Int) (n k m K : Nat) (hn : 1 ≤ n) (hn8 : n ≤ 8) (hk : 1 ≤ k) (hk8 : k ≤ 8) (hm : 1 ≤ m) (hm8 : m ≤ 8) (hK : K ≤ 268435456) (hA : ZL A n k K) (hB : ZL B k m K) : Fn Tryz.prog En 53 [zmt A n k, zmt B k m] (zmt (mulM A B k) n m) := by
 have C := mmul En A B n k m K hn hn8 hk hk8 hm hm8 hK hA hB
 refine aZb Tryz.func53 rfl Tryz.ntmps53 rfl ?_
 intro w0 h0
 refine js<|jr<|ja jj<|jn<|js<|jr<|jm jj<|jm jj<|jS (aZa C tB)<|jm jj<|jx' jj jj<|jx' jj jj<|ja jj<|ja jj<|jn<|js<|jr<|jm jj<|ja jj<|jn<|ji ?_
 exact rtT rfl jj
end
end Go.Proofs.YtfmjdlogjmofbaaGreatDoor
namespace Go.Proofs.YtfmjdlogjmofbaaGreatDoor.Det
def sm (f : Nat → Int) : Nat → Int
 | 0 => 0
 | n + 1 => sm f n + f n
theorem bZF {f g : Nat → Int} : ∀ {n : Nat}, (∀ i, i < n → f i = g i) → sm f n = sm g n
 | 0, _ => rfl
 | n + 1, h => by
  show sm f n + f n = sm g n + g n
  rw [bZF (fun i hi => h i oM), h n oM]
theorem iZs {f : Nat → Int} {n : Nat} (h : ∀ i, i < n → f i = 0) : sm f n = 0 := by
 rw [bZF (g := fun _ => 0) h]
 induction n with
 | zero => rfl
 | succ n ih => show sm (fun _ => 0) n + 0 = 0; rw [ih (fun i hi => h i oM)]; rfl
theorem pZP {f g : Nat → Int} (x y : Int) : ∀ (n : Nat), sm (fun i => x * f i + y * g i) n = x * sm f n + y * sm g n
 | 0 => by simp [sm]
 | n + 1 => by
  show sm _ n + (x * f n + y * g n) = x * (sm f n + f n) + y * (sm g n + g n)
  rw [pZP x y n, Int.mul_add, Int.mul_add]; omega
theorem lZ9 {f : Nat → Int} (x : Int) : ∀ (n : Nat), sm (fun i => x * f i) n = x * sm f n
 | 0 => by simp [sm]
 | n + 1 => by
  show sm _ n + x * f n = x * (sm f n + f n)
  rw [lZ9 x n, Int.mul_add]
theorem pZQ {f g : Nat → Int} : ∀ (n : Nat), sm (fun i => f i + g i) n = sm f n + sm g n
 | 0 => rfl
 | n + 1 => by
  show sm _ n + (f n + g n) = (sm f n + f n) + (sm g n + g n)
  rw [pZQ n]; omega
theorem iZt {f : Nat → Int} : ∀ (n : Nat), sm f (n + 1) = f 0 + sm (fun i => f (i + 1)) n
 | 0 => by show 0 + f 0 = f 0 + 0; omega
 | n + 1 => by
  show sm f (n + 1) + f (n + 1) = f 0 + (sm (fun i => f (i + 1)) n + f (n + 1))
  rw [iZt n]; omega
theorem lZ8 {f : Nat → Nat → Int} : ∀ (n m : Nat), sm (fun i => sm (fun j => f i j) m) n = sm (fun j => sm (fun i => f i j) n) m
 | 0, m => by show 0 = _; rw [iZs]; intro i _; rfl
 | n + 1, m => by
  show sm (fun i => sm (fun j => f i j) m) n + sm (fun j => f n j) m = sm (fun j => sm (fun i => f i j) n + f n j) m
  rw [pZQ, lZ8 n m]
theorem jZn {f : Nat → Int} {n k : Nat} (hk : k < n) (h : ∀ i, i < n → i ≠ k → f i = 0) : sm f n = f k := by
 induction n with
 | zero => omega
 | succ n ih =>
  show sm f n + f n = f k
  by_cases e : k = n
  ·subst e; rw [iZs (fun i hi => h i oM oM)]; omega
  ·rw [ih oM (fun i hi h1 => h i oM h1), h n oM oM]; omega
theorem sm_two {f : Nat → Int} {n k : Nat} (hk : k + 1 < n) (h : ∀ i, i < n → i ≠ k → i ≠ k + 1 → f i = 0) : sm f n = f k + f (k + 1) := by
 induction n with
 | zero => omega
 | succ n ih =>
  show sm f n + f n = _
  by_cases e : k + 1 = n
  ·subst e; rw [jZn (k := k) oM (fun i hi h1 => h i oM h1 oM)]
  ·rw [ih oM (fun i hi h1 h2 => h i oM h1 h2), h n oM oM oM]; omega
abbrev Mx := Nat → Nat → Int
def sg (i : Nat) : Int := if i % 2 = 0 then 1 else -1
theorem iZv (i : Nat) : sg (i + 1) = - sg i := by
 unfold sg; rcases Nat.mod_two_eq_zero_or_one i with h | h
 ·rw [if_neg oM, if_pos h]
 ·rw [if_pos oM, if_neg oM]; rfl
def sk (i r : Nat) : Nat := if r < i then r else r + 1
def mn (i : Nat) (M : Mx) : Mx := fun r c => M (sk i r) (c + 1)
def det : Nat → Mx → Int
 | 0, _ => 1
 | n + 1, M => sm (fun i => sg i * M i 0 * det n (mn i M)) (n + 1)
theorem iZu {i r n : Nat} (h : r < n) : sk i r < n + 1 := by unfold sk; split <;> omega
theorem sk_at {i k : Nat} (e : ¬ i = k) : sk i (if k < i then k else k - 1) = k := by
 unfold sk; by_cases h : k < i
 ·simp [h]
 ·simp only [if_neg h]; rw [if_neg oM]; omega
theorem sk_ne {i k r : Nat} (_ : ¬ i = k) (h : r ≠ if k < i then k else k - 1) : sk i r ≠ k := by unfold sk; grind
theorem sk_at2 {i k : Nat} (e : ¬ i = k) (e2 : ¬ i = k + 1) : sk i ((if k < i then k else k - 1) + 1) = k + 1 := by
 unfold sk; by_cases h : k < i
 ·simp only [if_pos h]; rw [if_pos oM]
 ·simp only [if_neg h]; rw [if_neg oM]; omega
theorem aZJ : ∀ {n : Nat} {M N : Mx}, (∀ r c, r < n → c < n → M r c = N r c) → det n M = det n N
 | 0, _, _, _ => rfl
 | n + 1, M, N, h => by
  refine bZF fun i hi => ?_
  rw [h i 0 hi oM, aZJ (M := mn i M) (N := mn i N) (fun r c hr hc => h _ _ (iZu hr) oM)]
theorem cZA : ∀ {n : Nat} {A B C : Mx} {k : Nat} {x y : Int}, k < n → (∀ c, c < n → A k c = x * B k c + y * C k c) → (∀ r c, r < n → c < n → r ≠ k → B r c = A r c) → (∀ r c, r < n → c < n → r ≠ k → C r c = A r c) → det n A = x * det n B + y * det n C
 | 0, _, _, _, _, _, _, hk, _, _, _ => oM
 | n + 1, A, B, C, k, x, y, hk, h, hB, hC => by
  show sm _ _ = x * sm _ _ + y * sm _ _
  rw [← pZP]
  refine bZF fun i hi => ?_
  by_cases e : i = k
  ·subst e
   rw [aZJ (M := mn i B) (N := mn i A) (fun r c hr hc => hB _ _ (iZu hr) oM (by unfold sk; split <;> omega)), aZJ (M := mn i C) (N := mn i A) (fun r c hr hc => hC _ _ (iZu hr) oM (by unfold sk; split <;> omega)), h 0 oM]
   grind
  ·rw [hB i 0 hi oM e, hC i 0 hi oM e]
   have := cZA (n := n) (A := mn i A) (B := mn i B) (C := mn i C) (k := if k < i then k else k - 1) (x := x) (y := y) (by split <;> omega) (fun c hc => by
     have : sk i (if k < i then k else k - 1) = k := sk_at e
     show A (sk i _) _ = x * B (sk i _) _ + y * C (sk i _) _
     rw [this]; exact h _ oM) (fun r c hr hc hk' => hB _ _ (iZu hr) oM (sk_ne e hk')) (fun r c hr hc hk' => hC _ _ (iZu hr) oM (sk_ne e hk'))
   rw [this]
   grind
theorem fZA : ∀ {n : Nat} {A : Mx} {k : Nat}, k + 1 < n → (∀ c, c < n → A k c = A (k + 1) c) → det n A = 0
 | 0, _, _, hk, _ => oM
 | n + 1, A, k, hk, h => by
  show sm _ _ = 0
  rw [sm_two (k := k) hk]
  ·rw [iZv, h 0 oM, aZJ (M := mn k A) (N := mn (k + 1) A)]
   ·generalize det n _ = d; generalize A _ _ = e
    rw [Int.neg_mul, Int.neg_mul]; omega
   ·intro r c hr hc
    show A _ _ = A _ _
    by_cases e : r = k
    ·subst e; rw [show sk r r = r + 1 by unfold sk; split <;> omega, show sk (r + 1) r = r by unfold sk; split <;> omega]; exact (h _ oM).symm
    ·rw [show sk k r = sk (k + 1) r by unfold sk; split <;> split <;> omega]
  ·intro i hi h1 h2
   rw [fZA (n := n) (A := mn i A) (k := if k < i then k else k - 1) (by split <;> omega) ?_]
   ·exact Int.mul_zero _
   ·intro c hc
    show A _ _ = A _ _
    rw [sk_at h1, sk_at2 h1 h2]
    exact h _ oM
def rsw (k l : Nat) (M : Mx) : Mx := fun r c => M (if r = k then l else if r = l then k else r) c
theorem iZg {n : Nat} {A : Mx} {k : Nat} (hk : k + 1 < n) : det n (rsw k (k + 1) A) = - det n A := by
 -- rows k and k+1 both the sum
 have e0 := fZA (n := n) (A := fun r c => if r = k ∨ r = k + 1 then A k c + A (k + 1) c else A r c) (k := k) hk (fun c _ => by simp)
 rw [cZA (k := k) (x := 1) (y := 1) (B := fun r c => if r = k then A k c else if r = k + 1 then A k c + A (k + 1) c else A r c) (C := fun r c => if r = k then A (k + 1) c else if r = k + 1 then A k c + A (k + 1) c else A r c) oM (fun c _ => by simp) (fun r c _ _ h => by simp [h]) (fun r c _ _ h => by simp [h])] at e0
 rw [cZA (A := fun r c => if r = k then A k c else if r = k + 1 then A k c + A (k + 1) c else A r c) (k := k + 1) (x := 1) (y := 1) (B := fun r c => if r = k + 1 then A k c else A r c) (C := A) oM (fun c _ => by simp) (fun r c _ _ h => by rw [if_neg h, if_neg h]; split <;> simp_all) (fun r c _ _ h => by rw [if_neg h]; split <;> simp_all)] at e0
 rw [cZA (A := fun r c => if r = k then A (k + 1) c else if r = k + 1 then A k c + A (k + 1) c else A r c) (k := k + 1) (x := 1) (y := 1) (B := rsw k (k + 1) A) (C := fun r c => if r = k then A (k + 1) c else A r c) oM (fun c _ => by simp [rsw]) (fun r c _ _ h => by simp only [rsw, if_neg h]; split <;> rfl) (fun r c _ _ h => by simp [h])] at e0
 rw [fZA (A := fun r c => if r = k + 1 then A k c else A r c) (k := k) hk (fun c _ => by simp), fZA (A := fun r c => if r = k then A (k + 1) c else A r c) (k := k) hk (fun c _ => by simp)] at e0
 omega
theorem nZf : ∀ {m : Nat} {n : Nat} {A : Mx} {k : Nat}, k + m + 1 < n → (∀ c, c < n → A k c = A (k + m + 1) c) → det n A = 0
 | 0, n, A, k, hk, h => fZA (k := k) hk h
 | m + 1, n, A, k, hk, h => by
  have e := iZg (n := n) (A := A) (k := k) oM
  have e2 := nZf (m := m) (n := n) (A := rsw k (k + 1) A) (k := k + 1) oM (fun c hc => by
   show A _ c = A _ c
   rw [if_neg oM, if_pos rfl, if_neg oM, if_neg oM, h c hc]
   congr 1; omega)
  omega
theorem fZ9 {n : Nat} {A : Mx} {k l : Nat} (hk : k < n) (hl : l < n) (hkl : k ≠ l) (h : ∀ c, c < n → A k c = A l c) : det n A = 0 := by
 rcases Nat.lt_or_gt_of_ne hkl with g | g
 ·exact nZf (m := l - k - 1) (k := k) oM (fun c hc => by rw [h c hc, show k + (l - k - 1) + 1 = l by omega])
 ·exact nZf (m := k - l - 1) (k := l) oM (fun c hc => by rw [← h c hc, show l + (k - l - 1) + 1 = k by omega])
theorem kZo {n : Nat} {A B : Mx} {k l : Nat} {x y : Int} (hk : k < n) (hl : l < n) (hkl : k ≠ l) (h : ∀ c, c < n → A k c = x * B k c + y * B l c) (hB : ∀ r c, r < n → c < n → r ≠ k → A r c = B r c) : det n A = x * det n B := by
 rw [cZA (k := k) (x := x) (y := y) (B := B) (C := fun r c => if r = k then B l c else B r c) hk (fun c hc => by simp [h c hc]) (fun r c hr hc e => (hB r c hr hc e).symm) (fun r c hr hc e => by simp only [if_neg e]; exact (hB r c hr hc e).symm)]
 rw [fZ9 (A := fun r c => if r = k then B l c else B r c) hk hl hkl (fun c _ => by simp [Ne.symm hkl])]
 omega
theorem eZX {n : Nat} {A B : Mx} {k l : Nat} (hk : k < n) (hl : l < n) (hkl : k ≠ l) (h1 : ∀ c, c < n → A k c = B l c) (h2 : ∀ c, c < n → A l c = B k c) (hB : ∀ r c, r < n → c < n → r ≠ k → r ≠ l → A r c = B r c) : det n A = - det n B := by
 -- rows k and l both the sum
 have e0 := fZ9 (n := n) (A := fun r c => if r = k ∨ r = l then B k c + B l c else B r c) hk hl hkl (fun c _ => by simp)
 rw [cZA (k := k) (x := 1) (y := 1) (B := fun r c => if r = k then B k c else if r = l then B k c + B l c else B r c) (C := fun r c => if r = k then B l c else if r = l then B k c + B l c else B r c) hk (fun c _ => by simp) (fun r c _ _ h => by simp [h]) (fun r c _ _ h => by simp [h])] at e0
 rw [cZA (A := fun r c => if r = k then B k c else if r = l then B k c + B l c else B r c) (k := l) (x := 1) (y := 1) (B := fun r c => if r = l then B k c else B r c) (C := B) hl (fun c _ => by simp [Ne.symm hkl]) (fun r c _ _ h => by rw [if_neg h, if_neg h]; split <;> simp_all) (fun r c _ _ h => by rw [if_neg h]; split <;> simp_all)] at e0
 rw [cZA (A := fun r c => if r = k then B l c else if r = l then B k c + B l c else B r c) (k := l) (x := 1) (y := 1) (B := A) (C := fun r c => if r = k then B l c else B r c) hl (fun c hc => by simp [Ne.symm hkl, h2 c hc]) (fun r c hr hc h => by by_cases e : r = k; (subst e; simp [h1 c hc]); (simp [e, h, hB r c hr hc e h])) (fun r c _ _ h => by simp [h])] at e0
 rw [fZ9 (A := fun r c => if r = l then B k c else B r c) hk hl hkl (fun c _ => by simp [hkl]), fZ9 (A := fun r c => if r = k then B l c else B r c) hk hl hkl (fun c _ => by simp [Ne.symm hkl])] at e0
 omega
def mr (j : Nat) (M : Mx) : Mx := fun r c => M (r + 1) (sk j c)
theorem eZo (r : Nat) : sk 0 r = r + 1 := by unfold sk; rw [if_neg oM]
theorem sk_ss (i r : Nat) : sk (i + 1) (r + 1) = sk i r + 1 := by unfold sk; split <;> split <;> omega
theorem sk_sz (i : Nat) : sk (i + 1) 0 = 0 := by unfold sk; rw [if_pos oM]
theorem iZe : ∀ (n : Nat) (M : Mx), det (n + 1) M = sm (fun j => sg j * M 0 j * det n (mr j M)) (n + 1)
 | 0, M => rfl
 | n + 1, M => by
  show sm (fun i => sg i * M i 0 * det (n + 1) (mn i M)) (n + 1 + 1) = _
  rw [iZt (n + 1), iZt (f := fun j => sg j * M 0 j * det (n + 1) (mr j M)) (n + 1)]
  have e0 : det (n + 1) (mn 0 M) = det (n + 1) (mr 0 M) := aZJ fun r c _ _ => by show M _ _ = M _ _; rw [eZo, eZo]
  have e1 : ∀ i, i < n + 1 → sg (i + 1) * M (i + 1) 0 * det (n + 1) (mn (i + 1) M) = sm (fun j => sg (i + 1) * M (i + 1) 0 * (sg j * M 0 (j + 1) * det n (mr j (mn (i + 1) M)))) (n + 1) := fun i _ => by
   rw [lZ9, iZe n]
   refine congrArg _ (bZF fun j _ => ?_)
   show sg j * M (sk (i + 1) 0) (j + 1) * _ = _
   rw [sk_sz]
  have e2 : ∀ j, j < n + 1 → sg (j + 1) * M 0 (j + 1) * det (n + 1) (mr (j + 1) M) = sm (fun i => sg (j + 1) * M 0 (j + 1) * (sg i * M (i + 1) 0 * det n (mr j (mn (i + 1) M)))) (n + 1) := fun j _ => by
   rw [lZ9]
   congr 1
   show sm _ _ = _
   refine bZF fun i _ => ?_
   show sg i * M (i + 1) (sk (j + 1) 0) * _ = _
   rw [sk_sz]
   congr 1
   refine aZJ fun r c _ _ => ?_
   show M (sk i r + 1) (sk (j + 1) (c + 1)) = M (sk (i + 1) (r + 1)) (sk j c + 1)
   rw [sk_ss, sk_ss]
  rw [e0, bZF e1, bZF e2, lZ8]
  congr 1
  refine bZF fun j _ => bZF fun i _ => ?_
  rw [iZv, iZv]
  grind
theorem gZn : ∀ (n : Nat) (M : Mx), det n (fun r c => M c r) = det n M
 | 0, _ => rfl
 | n + 1, M => by
  rw [iZe n M]
  show sm _ _ = _
  refine bZF fun i _ => ?_
  congr 1
  exact (aZJ fun r c _ _ => rfl).trans (gZn n (mr i M))
theorem det_cop {n : Nat} {A B : Mx} {k l : Nat} {x y : Int} (hk : k < n) (hl : l < n) (hkl : k ≠ l) (h : ∀ r, r < n → A r k = x * B r k + y * B r l) (hB : ∀ r c, r < n → c < n → c ≠ k → A r c = B r c) : det n A = x * det n B := by
 rw [← gZn n A, ← gZn n B]
 exact kZo (A := fun r c => A c r) (B := fun r c => B c r) hk hl hkl h (fun r c hr hc e => hB c r hc hr e)
theorem iZf {n : Nat} {A B : Mx} {k l : Nat} (hk : k < n) (hl : l < n) (hkl : k ≠ l) (h1 : ∀ r, r < n → A r k = B r l) (h2 : ∀ r, r < n → A r l = B r k) (hB : ∀ r c, r < n → c < n → c ≠ k → c ≠ l → A r c = B r c) : det n A = - det n B := by
 rw [← gZn n A, ← gZn n B]
 exact eZX (A := fun r c => A c r) (B := fun r c => B c r) hk hl hkl h1 h2 (fun r c hr hc e1 e2 => hB c r hc hr e1 e2)
def cn (M : Mx) : Mx := fun r c => M 0 0 * M (r + 1) (c + 1) - M (r + 1) 0 * M 0 (c + 1)
def chP (M : Mx) (k : Nat) : Mx := fun r c => if r = 0 ∨ k < r then M r c else M 0 0 * M r c - M r 0 * M 0 c
theorem nZq (n : Nat) (M : Mx) : ∀ k, k ≤ n → det (n + 1) (chP M k) = M 0 0 ^ k * det (n + 1) M
 | 0, _ => by
  rw [Int.pow_zero, Int.one_mul]
  exact aZJ fun r c _ _ => by unfold chP; rw [if_pos oM]
 | k + 1, hk => by
  rw [kZo (A := chP M (k + 1)) (B := chP M k) (k := k + 1) (l := 0) (x := M 0 0) (y := - M (k + 1) 0) oM oM oM, nZq n M k oM, Int.pow_succ]
  ·grind
  ·intro c _
   unfold chP
   rw [if_neg oM, if_pos oM, if_pos oM]
   grind
  ·intro r c _ _ hr
   unfold chP
   by_cases h : r = 0 ∨ k < r
   ·rw [if_pos oM, if_pos h]
   ·rw [if_neg oM, if_neg h]
theorem chio (n : Nat) (M : Mx) : M 0 0 ^ n * det (n + 1) M = M 0 0 * det n (cn M) := by
 rw [← nZq n M n (Nat.le_refl _)]
 show sm _ _ = _
 rw [jZn (k := 0) oM]
 ·show sg 0 * chP M n 0 0 * _ = _
  have e : chP M n 0 0 = M 0 0 := by unfold chP; rw [if_pos oM]
  rw [e, show sg 0 = 1 from rfl, Int.one_mul]
  congr 1
  refine aZJ fun r c hr hc => ?_
  show chP M n (sk 0 r) (c + 1) = _
  unfold chP cn
  rw [eZo, if_neg oM]
 ·intro i hi h0
  have e : chP M n i 0 = 0 := by unfold chP; rw [if_neg oM]; grind
  rw [e, Int.mul_zero, Int.zero_mul]
def bo (M : Mx) (k i j : Nat) : Mx := fun r c => M (if r < k then r else i) (if c < k then c else j)
def bm (M : Mx) (k i j : Nat) : Int := det (k + 1) (bo M k i j)
theorem cZv (M : Mx) (i j : Nat) : bm M 0 i j = M i j := by
 show 0 + 1 * M i j * 1 = M i j
 omega
theorem cZc (M : Mx) (k : Nat) : bm M k k k = det (k + 1) M := aZJ fun r c hr hc => by
 unfold bo
 rw [show (if r < k then r else k) = r by split <;> omega, show (if c < k then c else k) = c by split <;> omega]
theorem bm_tr (M : Mx) (k i j : Nat) : bm (fun r c => M c r) k i j = bm M k j i := gZn (k + 1) (bo M k j i)
theorem bm_chio (M : Mx) (k i j : Nat) : M 0 0 ^ (k + 1) * bm M (k + 1) (i + 1) (j + 1) = M 0 0 * bm (cn M) k i j := by
 have e := chio (k + 1) (bo M (k + 1) (i + 1) (j + 1))
 have e0 : bo M (k + 1) (i + 1) (j + 1) 0 0 = M 0 0 := by unfold bo; rw [if_pos oM, if_pos oM]
 rw [e0] at e
 unfold bm
 rw [e]
 congr 1
 refine aZJ fun r c hr hc => ?_
 have e1 : ∀ x t : Nat, (if x + 1 < k + 1 then x + 1 else t + 1) = (if x < k then x else t) + 1 := fun x t => by split <;> split <;> omega
 show M _ _ * M _ _ - M _ _ * M _ _ = M _ _ * M _ _ - M _ _ * M _ _
 simp only [e1, if_pos (show (0 : Nat) < k + 1 by omega)]
theorem jZA {a : Int} (h : a ≠ 0) : ∀ k : Nat, a ^ k ≠ 0
 | 0 => by simp
 | k + 1 => by rw [Int.pow_succ]; exact Int.mul_ne_zero (jZA h k) h
theorem nZe (M : Mx) : det 1 M = M 0 0 := cZv M 0 0
theorem dZ2 {M : Mx} (h : M 0 0 ≠ 0) (k i j : Nat) : bm (cn M) k i j = M 0 0 ^ k * bm M (k + 1) (i + 1) (j + 1) := by
 have e := bm_chio M k i j
 rw [Int.pow_succ, Int.mul_comm (M 0 0 ^ k), Int.mul_assoc] at e
 exact (Int.eq_of_mul_eq_mul_left h e).symm
theorem cn_ne {M : Mx} (h : M 0 0 ≠ 0) {l : Nat} (hl : det (l + 1) M ≠ 0) : det l (cn M) ≠ 0 := by
 intro e
 have := chio l M
 rw [e, Int.mul_zero] at this
 exact (Int.mul_ne_zero (jZA h l) hl) this
theorem fZD : ∀ {k : Nat} {M : Mx} {i j : Nat}, (∀ l, l < k → det (l + 1) M ≠ 0) → k < i → k < j → bm M (k + 1) i j * det k M = bm M k k k * bm M k i j - bm M k i k * bm M k k j
 | 0, M, i, j, _, hi, hj => by
  simp only [cZv]
  show (0 + 1 * M 0 0 * (0 + 1 * M i j * 1) + -1 * M i 0 * (0 + 1 * M 0 j * 1)) * 1 = _
  grind
 | k + 1, M, i + 1, j + 1, h, hi, hj => by
  have h0 : M 0 0 ≠ 0 := by rw [← nZe M]; exact h 0 oM
  have ih := fZD (k := k) (M := cn M) (i := i) (j := j) (fun l hl => cn_ne h0 (h (l + 1) oM)) oM oM
  rw [dZ2 h0, dZ2 h0, dZ2 h0, dZ2 h0, dZ2 h0] at ih
  have e := chio k M
  have hz := jZA h0 (k + k)
  refine Int.eq_of_mul_eq_mul_left (a := M 0 0 ^ (k + k) * M 0 0) (Int.mul_ne_zero hz h0) ?_
  rw [Int.pow_succ] at ih
  rw [Int.pow_add]
  generalize M 0 0 = a at *
  generalize a ^ k = b at *
  grind
theorem iZd : ∀ {k n : Nat} {M : Mx}, (∀ l, l < k → det (l + 1) M ≠ 0) → k < n → (∀ i, k ≤ i → i < n → bm M k i k = 0) → det n M = 0
 | 0, n + 1, M, _, _, h => by
  show sm _ _ = 0
  refine iZs fun i hi => ?_
  have := h i oM hi
  rw [cZv] at this
  rw [this, Int.mul_zero, Int.zero_mul]
 | k + 1, n + 1, M, h, hk, hz => by
  have h0 : M 0 0 ≠ 0 := by rw [← nZe M]; exact h 0 oM
  have ih := iZd (k := k) (n := n) (M := cn M) (fun l hl => cn_ne h0 (h (l + 1) oM)) oM (fun i h1 h2 => by rw [dZ2 h0, hz (i + 1) oM oM, Int.mul_zero])
  have e := chio n M
  rw [ih, Int.mul_zero] at e
  rcases Int.mul_eq_zero.1 e with g | g
  ·exact absurd g (jZA h0 n)
  ·exact g
end Go.Proofs.YtfmjdlogjmofbaaGreatDoor.Det
namespace Go.Proofs.YtfmjdlogjmofbaaGreatDoor.Det
def tq (k p r : Nat) : Nat := if r = k then p else if r = p then k else r
theorem bm_rsw {M : Mx} {k p i j : Nat} (hp : k ≤ p) : bm (rsw k p M) k i j = bm M k (tq k p i) j := by
 refine aZJ fun r c hr hc => ?_
 unfold bo rsw tq
 by_cases h : r < k
 ·simp only [if_pos h, if_neg (show ¬ r = k by omega), if_neg (show ¬ r = p by omega)]
 ·simp only [if_neg h]
theorem gZo {M : Mx} {k p l : Nat} (hp : k ≤ p) (hl : l ≤ k) : det l (rsw k p M) = det l M :=
 aZJ fun r c hr hc => by unfold rsw; rw [if_neg oM, if_neg oM]
theorem det_rsw {M : Mx} {n k p : Nat} (hk : k < n) (hp : p < n) (h : k ≠ p) : det n (rsw k p M) = - det n M :=
 eZX hk hp h (fun c _ => by unfold rsw; rw [if_pos rfl]) (fun c _ => by unfold rsw; rw [if_neg (fun e => h e.symm), if_pos rfl]) (fun r c _ _ h1 h2 => by unfold rsw; rw [if_neg h1, if_neg h2])
structure El (n : Nat) (M0 : Mx) (k : Nat) (neg : Bool) (last : Int) (A M : Mx) : Prop where
 ent : ∀ i j, k ≤ i → i < n → k ≤ j → j < n → A i j = bm M k i j
 ne : ∀ l, l < k → det (l + 1) M ≠ 0
 lst : last = det k M
 val : det n M = (bif neg then -1 else 1) * det n M0
theorem El.start (n : Nat) (M : Mx) : El n M 0 false 1 M M := ⟨fun i j _ _ _ _ => (cZv M i j).symm, fun l h => oM, rfl, by simp⟩
theorem El.none {n k : Nat} {M0 A M : Mx} {neg : Bool} {last : Int} (h : El n M0 k neg last A M) (hk : k < n) (hz : ∀ i, k ≤ i → i < n → A i k = 0) : det n M0 = 0 := by
 have e := iZd h.ne hk (fun i h1 h2 => by rw [← h.ent i k h1 h2 (Nat.le_refl _) hk]; exact hz i h1 h2)
 have := h.val
 rw [e] at this
 cases neg <;> simp at this <;> omega
theorem El.swap {n k p : Nat} {M0 A M : Mx} {neg : Bool} {last : Int} (h : El n M0 k neg last A M) (hk : k < p) (hp : p < n) : El n M0 k (!neg) last (rsw k p A) (rsw k p M) where
 ent i j h1 h2 h3 h4 := by
  rw [bm_rsw oM]
  exact h.ent _ j (by split <;> (try split) <;> omega) (by split <;> (try split) <;> omega) h3 h4
 ne l hl := by rw [gZo oM oM]; exact h.ne l hl
 lst := by rw [gZo oM oM]; exact h.lst
 val := by
  rw [det_rsw oM hp oM, h.val]
  cases neg <;> simp
theorem El.step {n k : Nat} {M0 A B M : Mx} {neg : Bool} {last : Int} (h : El n M0 k neg last A M) (hk : k < n) (hz : A k k ≠ 0) (hB : ∀ i j, k < i → i < n → k < j → j < n → B i j = (A k k * A i j - A i k * A k j).tdiv last) : El n M0 (k + 1) neg (A k k) B M := by
 have e0 : A k k = det (k + 1) M := by rw [h.ent k k oM hk oM hk, cZc]
 have hd : det k M ≠ 0 := by
  cases k with
  | zero => show (1 : Int) ≠ 0; omega
  | succ k => exact h.ne k oM
 refine ⟨fun i j h1 h2 h3 h4 => ?_, fun l hl => ?_, e0, h.val⟩
 ·rw [hB i j oM h2 oM h4, h.ent k k oM hk oM hk, h.ent i j oM h2 oM h4, h.ent i k oM h2 oM hk, h.ent k j oM hk oM h4, ← fZD h.ne oM oM, h.lst]
  exact Int.mul_tdiv_cancel _ hd
 ·by_cases e : l = k
  ·subst e; rw [← e0]; exact hz
  ·exact h.ne l oM
theorem El.step' {n k : Nat} {M0 A B M : Mx} {neg : Bool} {last : Int} (h : El n M0 k neg last A M) (hk : k < n) (hz : A k k ≠ 0) (hB : ∀ i j, k < i → i < n → k < j → j < n → B i j = (A k k * A i j - A i k * A k j) / last) : El n M0 (k + 1) neg (A k k) B M := by
 refine h.step hk hz fun i j h1 h2 h3 h4 => ?_
 have hd : det k M ≠ 0 := by
  cases k with
  | zero => show (1 : Int) ≠ 0; omega
  | succ k => exact h.ne k oM
 rw [hB i j h1 h2 h3 h4, h.ent k k oM hk oM hk, h.ent i j oM h2 oM h4, h.ent i k oM h2 oM hk, h.ent k j oM hk oM h4, ← fZD h.ne oM oM, h.lst, Int.mul_tdiv_cancel _ hd, Int.mul_ediv_cancel _ hd]
end Go.Proofs.YtfmjdlogjmofbaaGreatDoor.Det

/- Copies of matrices; determinants. -/
import Derived.Test.YtfmjdlogjmofbaaGreatDoorMem
import Derived.Test.YtfmjdlogjmofbaaGreatDoorElim
import Derived.Test.YtfmjdlogjmofbaaGreatDoorW
set_option maxRecDepth 3000
namespace Go.Proofs.YtfmjdlogjmofbaaGreatDoor
section
open Go.RowKit Limb Det
theorem dZO (f : Nat → Int) (m : Nat) : (zRow f m).length = m * 2 := bZj (k := 2) fun _ _ => rfl
def cout (i j m : Nat) : Nat → Pd := fun a => if a < i then ownP (200 + a) 0 m m else if a = i then appP 505 2 j else ex (.slice none 0 0)
theorem zl_sm {f : Nat → Int} {K : Nat} : ∀ {n : Nat}, (∀ i, i < n → zl (f i) ≤ K) → zl (sm f n) ≤ K + n
 | 0, _ => by
  have : zl 0 = 0 := by decide
  show zl 0 ≤ _; rw [this]; omega
 | n + 1, h => by
  have h1 := zl_sm fun i (hi : i < n) => h i oM
  have h2 := h n oM
  have h3 := eZ8 (sm f n) (f n)
  show zl (sm f n + f n) ≤ _; omega
theorem zl_sg (i : Nat) (x : Int) : zl (sg i * x) = zl x := by
 unfold sg; split
 ·rw [Int.one_mul]
 ·rw [Int.neg_mul, Int.one_mul, hZi]
theorem pZK {K : Nat} : ∀ {n : Nat} {M : Mx}, (∀ i j, i < n → j < n → zl (M i j) ≤ K) → zl (det n M) ≤ n * K + n * n + 1
 | 0, M, _ => by
  have : zl 1 = 1 := by decide
  show zl 1 ≤ _; omega
 | n + 1, M, h => by
  have h1 : zl (det (n + 1) M) ≤ (K + (n * K + n * n + 1)) + (n + 1) := zl_sm fun i hi => by
   rw [Int.mul_assoc, zl_sg]
   have a1 := bZh (M i 0) (det n (mn i M))
   have a2 := h i 0 hi oM
   have a3 := pZK (n := n) (M := mn i M) fun r c hr hc => h _ _ (iZu hr) oM
   omega
  have e1 : (n + 1) * K = n * K + K := Nat.succ_mul n K
  have e2 : (n + 1) * (n + 1) = n * n + 2 * n + 1 := by rw [Nat.succ_mul, Nat.mul_succ]; omega
  omega
theorem dZf {K n : Nat} {M : Mx} (hn : n ≤ 9) (h : ∀ i j, i < n → j < n → zl (M i j) ≤ K) : zl (det n M) ≤ 9 * K + 82 := by
 have h1 := pZK h
 have h2 : n * K ≤ 9 * K := Nat.mul_le_mul_right _ hn
 have h3 : n * n ≤ 9 * 9 := Nat.mul_le_mul hn hn
 omega
theorem zl_bm {K n k i j : Nat} {M : Mx} (hn : n ≤ 8) (h : ∀ i j, i < n → j < n → zl (M i j) ≤ K) (hk : k ≤ n) (hi : i < n) (hj : j < n) : zl (bm M k i j) ≤ 9 * K + 82 :=
 dZf oM fun r c hr hc => h _ _ (by split <;> omega) (by split <;> omega)
structure DS (n K : Nat) (A : Nat → Nat → Int) where
 k : Nat
 neg : Bool
 last : Int
 π : Nat → Nat
 B : Nat → Nat → Int
 M : Nat → Nat → Int
 hk : k ≤ n
 el : El n A k neg last (fun i j => B (π i) j) M
 hπ : ∀ i, i < n → π i < n
 inj : ∀ i j, i < n → j < n → π i = π j → i = j
 hM : ∀ i j, i < n → j < n → zl (M i j) ≤ K
theorem DS.zlB {n K : Nat} {A : Nat → Nat → Int} (s : DS n K A) (hn : n ≤ 8) {i j : Nat} (h1 : s.k ≤ i) (h2 : i < n) (h3 : s.k ≤ j) (h4 : j < n) : zl (s.B (s.π i) j) ≤ 9 * K + 82 := by
 rw [s.el.ent i j h1 h2 h3 h4]
 exact zl_bm hn s.hM s.hk h2 h4
theorem DS.zlL {n K : Nat} {A : Nat → Nat → Int} (s : DS n K A) (hn : n ≤ 8) : zl s.last ≤ 9 * K + 82 := by
 rw [s.el.lst]
 have := s.hk
 exact dZf oM fun i j hi hj => s.hM i j oM oM
theorem DS.last_ne {n K : Nat} {A : Nat → Nat → Int} (s : DS n K A) : s.last ≠ 0 := by
 rw [s.el.lst]
 cases hk : s.k with
 | zero => show (1 : Int) ≠ 0; omega
 | succ k => exact s.el.ne k oM
section
variable (En : Ev)
theorem qZe (A : Nat → Nat → Int) (n m K : Nat) (hn8 : n ≤ 8) (hm : 1 ≤ m) (hm8 : m ≤ 8) (hK : K ≤ 1099511627776) (hA : ZL A n m K) : FnG Tryz.prog En 48 ([zmt A n m].map .one) [] (.own 400 0 n n) (mbx 400 200 (fun i => i) n m (bZq A n m)) := by
 refine aZr Tryz.func48 rfl Tryz.ntmps48 rfl ?_
 intro w0 h0 c
 refine js<|jr<|ja jj<|jn<|js<|jr<|jm jj<|jE jj<|jT (bZ7 jj jj jj jj oM jj jj)<|ja jj<|jn<|js<|js<|jr<|jm jj<|jE jj<|jm jj<|jn<|jb ?_
 refine WpD.loop (α := {i : Nat // i ≤ n}) (fun i => ⟨[(0, .one (zmt A n m)), (3, .own 400 0 n n), (11, .one (ex (.int .i64 (n : Int)))), (12, .one (ex (.int .i64 (i.1 : Int))))], (400, outL (zout 200 i.1 m) n) :: rws 200 (bZq A i.1 m)⟩) (fun i => n - i.1) ⟨0, Nat.zero_le _⟩ ?_ ?_
 ·dsimp only
  refine Sub.mv 400 9 oM oM oM ⟨pK, ⟨_, rfl, aZF _ _, rfl, rfl, rfl, js0 rfl⟩, pK, pK, trivial⟩ ⟨BMv.to rfl rfl uG oM oM (congrArg some (bZ9 [ex (.slice none 0 0)] n)) (fun i _ => ⟨PLe.refl _, by unfold zout; rw [if_neg oM]; exact inferInstance⟩), mvBx.fam (fun j _ => .inl (bZS oM)) trivial⟩
 rintro ⟨i, hi⟩
 dsimp only
 by_cases hin : i < n
 ·refine js<|jr<|jS (bLt jj jj)<|jn<|js<|jt jj<|jp<|js<|jb<|js<|jr<|jm jj<|ja jj<|jn<|js<|jr<|jm jj<|jm jj<|jS (bZb jj jj aO)<|jS (aZh jj jj)<|jE jj<|jm jj<|jn<|jb ?_
  refine WpD.loop (α := {j : Nat // j ≤ m}) (fun j => ⟨[(0, .one (zmt A n m)), (3, .own 400 0 n n), (4, .one (ex (.int .i64 (i : Int)))), (11, .one (ex (.int .i64 (n : Int)))), (12, .one (ex (.int .i64 (i : Int)))), (18, .one (zsl (A i) m)), (19, .one (ex (.int .i64 (m : Int)))), (20, .one (ex (.int .i64 (j.1 : Int))))], (400, outL (cout i j.1 m) n) :: (rws 200 (bZq A i m) ++ [(505, zRow (A i) j.1), (755, [])])⟩) (fun j => m - j.1) ⟨0, Nat.zero_le _⟩ ?_ ?_
  ·dsimp only
   refine Sub.mk ?_ ⟨.inl ⟨_, rfl, PsLe.of (aZu fun a ha => ?_)⟩, subBx.fam fFm (fun r _ => PsLe.refl _) ⟨.inr rfl, .inr rfl, trivial⟩⟩ (LKeep.all ⟨.inr (fun p hp => ?_), lkAll.fam rfl ⟨.inl rfl, .inl rfl, trivial⟩⟩)
   ·repeat (first | exact trivial | refine jv rfl ?_ | refine jw rfl (js0 rfl) ?_)
   ·unfold zout cout
    by_cases h1 : a < i
    ·rw [if_pos h1, if_pos h1]
    ·rw [if_neg h1, if_neg h1]
     by_cases h2 : a = i
     ·rw [if_pos h2]; rfl
     ·rw [if_neg h2]
   ·obtain ⟨a, ha, rfl⟩ := cZh hp
    unfold cout
    by_cases h1 : a < i
    ·rw [if_pos h1]; exact bZU ((Fam.live fFm) a oM) uG
    ·rw [if_neg h1]
     by_cases h2 : a = i
     ·rw [if_pos h2]; exact jZG (js0 rfl) (js0 rfl)
     ·rw [if_neg h2]; exact bZH
  rintro ⟨j, hj⟩
  dsimp only
  by_cases hjm : j < m
  ·have C1 := cnorm En (A i j) (Nat.le_trans (hA i j hin hjm) hK)
   have hp : (outL (cout i j m) n)[i * 1]? = some (appP 505 2 j) := by rw [Nat.mul_one, gZG hin]; unfold cout; rw [if_neg oM, if_pos rfl]
   have ho : i * 1 < (outL (cout i j m) n).length := by rw [bZc]; omega
   refine js<|jr<|jS (bLt jj jj)<|jn<|js<|jt jj<|jp<|js<|jb<|js<|jr<|jS (bZm jj jj aO (fun _ _ => jj))<|jS (aZq jj jj jj)<|jA jj jj jj<|jP jj jj jj jj<|jn<|jr<|jm jj<|jm jj<|jm jj<|jm jj<|jS (aZd jj jj aO)<|jS (jZ0 jj jj hp (js0 jj) (js0 jj))<|jL jj jj jj<|jS (aZa C1 ⟨jj, trivial⟩)<|jS (aZ5 (ps := [(_, _)]) ⟨jj, Part.c jj, trivial⟩ jj jj jj)<|RG.SW (LT.plain jj (aZD 533 jj jj ((dZO _ _)) jj oM oM jj jj jj jj jj jj)) jj<|jS (aZd jj jj aO)<|jO (dZV jj jj jj ho jj (by rw [Nat.mul_one, dZz hin]))<|jn<|jr<|jS (bAd jj jj wO)<|jm jj<|jn ?_
   refine ⟨⟨j + 1, oM⟩, ?_, oD⟩
   dsimp only
   refine Sub.mv 505 533 oM oM oM ⟨pK, ⟨_, rfl, aZ7 oM oM, rfl, rfl, rfl, js0 rfl⟩, pK, pK, pK, pK, pK, pK, trivial⟩ ⟨BMv.out rfl oM oM uG rfl (fun a ha => ?_), mvBx.famK fFm oM oM oM (fun r _ => PsLe.refl _) ⟨BMv.at rfl rfl (fun _ => by unfold grows; omega) oM oM rfl (PsLe.refl _), .inl rfl, trivial⟩⟩ rfl rfl
   unfold cout
   by_cases h2 : a = i
   ·rw [if_pos h2, if_neg oM, if_pos h2]
    exact PMv.app (aZF _ _) (cZa _ _) (js0 rfl) (js0 rfl)
   ·rw [if_neg h2]
    by_cases h1 : a < i
    ·rw [if_pos h1, if_pos h1]
     exact PMv.own (aZ7 oM oM) ((Fam.live fFm) a oM) uG uG
    ·rw [if_neg h1, if_neg h2, if_neg h1, if_neg h2]
     exact PMv.flat (PLe.refl _)
  ·have e : j = m := oM
   subst e
   refine js<|jr<|jS (bLf jj jj)<|jn<|js<|jf jj<|je<|jr<|jS (bAd jj jj wO)<|jm jj<|jn ?_
   refine ⟨⟨i + 1, oM⟩, ?_, oD⟩
   dsimp only
   refine Sub.mv (200 + i) 505 oM oM oM ⟨pK, ⟨_, rfl, aZ7 oM oM, rfl, rfl, rfl, js0 rfl⟩, pK, pK, trivial⟩ ⟨BMv.out rfl oM oM uG rfl (fun a ha => ?_), mvBx.fam (fun r hr => ?_) trivial⟩ rfl ?_
   ·unfold cout zout
    by_cases h1 : a < i
    ·rw [if_pos h1, if_pos oM]
     exact PMv.own (aZ7 oM oM) ((Fam.live fFm) a oM) uG uG
    ·rw [if_neg h1]
     by_cases h2 : a = i
     ·subst h2
      rw [if_pos rfl, if_pos oM]
      exact PMv.fix (aZF _ _) oM ((Fam.live fFm) a oM) uG
     ·rw [if_neg h2, if_neg oM]
      exact PMv.flat (PLe.refl _)
   ·by_cases h2 : r = i
    ·subst h2
     exact BMv.at (bZL oM) rfl uG oM oM rfl (PsLe.of (aZ4 oM).symm)
    ·refine BMv.keep (bZL oM) oM oM uG ((show Fam _ 200 (bZq A i j) from fFm) r hr) (PsLe.of ?_)
     by_cases h1 : r < i
     ·rw [aZ4 h1, aZ4 oM]
     ·rw [bZS h1, bZS oM]
   ·dsimp only
    rw [aZc, if_neg oM, cZu, if_neg oM]; rfl
 ·have e : i = n := oM
  subst e
  refine js<|jr<|jS (bLf jj jj)<|jn<|js<|jf jj<|je<|js<|jr<|jm jj<|ja jj<|jn<|ji ?_
  refine dZm rfl rfl (SLe.rfl' _) (js0 rfl) ⟨.inl ⟨_, rfl, PsLe.of (dZv ..)⟩, subBx.fam fFm (fun _ _ => PsLe.refl _) trivial⟩ (LKeep.all ⟨.inr (aZp (Fam.live fFm) oM oM), lkAll.fam rfl trivial⟩)
theorem mcopy (A : Nat → Nat → Int) (n m K : Nat) (hn8 : n ≤ 8) (hm : 1 ≤ m) (hm8 : m ≤ 8) (hK : K ≤ 1099511627776) (hA : ZL A n m K) : Fn Tryz.prog En 48 [zmt A n m] (zmt A n m) :=
 FnX.const1 (qZe En A n m K hn8 hm hm8 hK hA) (fun i hi => oM) (fun i hi => aZ4 hi) (fun _ _ _ _ => rfl)
end
end
section
open Go.RowKit Limb Det
structure DP (n K k : Nat) (A : Nat → Nat → Int) (last : Int) where
 neg : Bool
 π : Nat → Nat
 B : Nat → Nat → Int
 M : Nat → Nat → Int
 el : El n A k neg last (fun i j => B (π i) j) M
 hπ : ∀ i, i < n → π i < n
 inj : ∀ i j, i < n → j < n → π i = π j → i = j
 hM : ∀ i j, i < n → j < n → zl (M i j) ≤ K
 hz : B (π k) k ≠ 0
def dnw (k : Nat) (last : Int) (π : Nat → Nat) (B : Nat → Nat → Int) (a c : Nat) : Int := (B (π k) k * B (π a) c - B (π a) k * B (π k) c) / last
theorem rsw_inj {n k p : Nat} {π : Nat → Nat} (hk : k < n) (hp : p < n) (h : ∀ i j, i < n → j < n → π i = π j → i = j) : ∀ i j, i < n → j < n → π (if i = k then p else if i = p then k else i) = π (if j = k then p else if j = p then k else j) → i = j := fun i j hi hj e => by
 have := h _ _ (by split <;> (try split) <;> omega) (by split <;> (try split) <;> omega) e
 split at this <;> split at this <;> (try split at this) <;> (try split at this) <;> omega
section
variable (En : Ev)
set_option maxHeartbeats 4000000 in
theorem mdet (A : Nat → Nat → Int) (n K : Nat) (hn : 1 ≤ n) (hn8 : n ≤ 8) (hK : K ≤ 1000000) (hA : ZL A n n K) : Fn Tryz.prog En 21 [zmt A n n] (zC (det n A)) := by
 have CC := qZe En A n n K hn8 hn hn8 oM hA
 have CS := cZ5 En 1 oM oM
 refine aZb Tryz.func21 rfl Tryz.ntmps21 rfl ?_
 intro w0 h0
 refine js<|jr<|jA jj jj jj<|jn<|js<|jr<|jm jj<|RG.SW (LT.plain jj (cZ1 400 200 CC ⟨jj, trivial⟩ (by intro i hi; omega) jj)) jj<|ja jj<|jn<|js<|jr<|jm jj<|jS (aZE jj CSlice.ok)<|ja jj<|jn<|js<|jr<|jS (aZa CS ⟨jj, trivial⟩)<|jA jj jj jj<|jP jj jj jj jj<|ja jj<|jn<|js<|js<|jr<|ja jj<|jn<|jb ?_
 refine WpD.loop (α := DS n K A) (fun s => ⟨[(2, .ptr 2 0), (3, .own 400 0 n n), (4, .one (ex (.int .i64 (n : Int)))), (5, .ptr 5 0), (6, .one (ex (.bool s.neg))), (7, .one (ex (.int .i64 (s.k : Int))))], (400, outL (fun j => ownP (200 + s.π j) 0 n n) n) :: (rws 200 (bZq s.B n n) ++ [(5, aZL s.last), (2, [ex (.bool false), ex (.slice none 0 0)])])⟩) (fun s => n - s.k) ⟨0, false, 1, fun i => i, A, A, oM, El.start n A, fun i h => h, fun i j _ _ h => h, hA⟩ ?_ ?_
 ·dsimp only
  exact Sub.mk sJ ⟨.inl pQ, subBx.fam fFm (fun r _ => PsLe.of rfl) ⟨.inl pQ, .inl pQ, trivial⟩⟩ (LKeep.all ⟨.inr (aZp (π := fun i => i) (Fam.live fFm) oM oM), lkAll.fam rfl ⟨.inl rfl, .inl rfl, trivial⟩⟩)
 intro s
 have szL := s.zlL hn8
 have szB := fun {i j : Nat} => s.zlB hn8 (i := i) (j := j)
 have hl0 := s.last_ne
 obtain ⟨k, neg, last, π, B, M, hk, el, hπ, hinj, hM⟩ := s
 dsimp only at *
 by_cases hkn : k < n
 ·refine js<|js<|jr<|jm jj<|jm jj<|jS (bLt jj jj)<|jn<|jt jj<|jp<|js<|jb<|js<|jr<|jm jj<|ja jj<|jn<|js<|jb ?_
  refine WpD.loop (α := {p : Nat // k ≤ p ∧ p ≤ n ∧ (∀ i, k ≤ i → i < p → B (π i) k = 0)}) (fun p => ⟨[(2, .ptr 2 0), (3, .own 400 0 n n), (4, .one (ex (.int .i64 (n : Int)))), (5, .ptr 5 0), (6, .one (ex (.bool neg))), (7, .one (ex (.int .i64 (k : Int)))), (8, .one (ex (.int .i64 (p.1 : Int))))], (400, outL (fun j => ownP (200 + π j) 0 n n) n) :: (rws 200 (bZq B n n) ++ [(5, aZL last), (2, [ex (.bool false), ex (.slice none 0 0)])])⟩) (fun p => n - p.1) ⟨k, oM, oM, fun i h1 h2 => oM⟩ ?_ ?_
  ·dsimp only
   exact Sub.mk sJ ⟨.inl pQ, subBx.fam fFm (fun r _ => PsLe.of rfl) ⟨.inl pQ, .inl pQ, trivial⟩⟩ (LKeep.all ⟨.inr (aZp (π := π) (Fam.live fFm) oM (fun i hi => by have := hπ i hi; omega)), lkAll.fam rfl ⟨.inl rfl, .inl rfl, trivial⟩⟩)
  rintro ⟨p, hp1, hp2, hp3⟩
  dsimp only
  by_cases hpn : p < n
  ·have hpp := hπ p hpn
   have he : bZq B n n (π p) = rowL (fun c => aZL (B (π p) c)) n := aZ4 hpp
   have C1 := pZh En (B (π p) k) (Nat.le_trans (szB hp1 hpn oM hkn) oM)
   by_cases hz : B (π p) k = 0
   ·have b1 : (sg3 (B (π p) k) == 0) = true := by rw [hz]; rfl
    refine js<|js<|jr<|jm jj<|jm jj<|jS (bLt jj jj)<|jm jj (jgm jj (jgm jj (jg (aZd jj jj aO) ?_)))
    refine jg (aZt jj jj aO jj aG) (jgm jj (jg (aZd jj jj aO) (jg (cZO jj fFm aO aR aO (fun _ _ => jj)) ?_)))
    refine jg (aZa C1 ⟨jj, trivial⟩)<|jg (bVq jj jj b1)<|jq jj jj<|jn<|jt jj<|jp<|jb<|jr<|jm jj<|jS (bAd jj jj wO)<|ja jj<|jn ?_
    refine ⟨⟨p + 1, oM, oM, fun i h1 h2 => ?_⟩, ?_, oD⟩
    ·by_cases e : i = p
     ·rw [e]; exact hz
     ·exact hp3 i h1 oM
    ·dsimp only
     exact Sub.mk sJ ⟨.inl pQ, subBx.fam fFm (fun r _ => PsLe.of rfl) ⟨.inl pQ, .inl pQ, trivial⟩⟩ (LKeep.all ⟨.inr (aZp (π := π) (Fam.live fFm) oM (fun i hi => by have := hπ i hi; omega)), lkAll.fam rfl ⟨.inl rfl, .inl rfl, trivial⟩⟩)
   ·have b1 : (sg3 (B (π p) k) == 0) = false := by
     unfold sg3
     split <;> (try split) <;> first | rfl | (exfalso; omega)
    have b2 : ((p : Int) == (n : Int)) = false := beqF oM
    refine js<|js<|jr<|jm jj<|jm jj<|jS (bLt jj jj)<|jm jj (jgm jj (jgm jj (jg (aZd jj jj aO) ?_)))
    refine jg (aZt jj jj aO jj aG) (jgm jj (jg (aZd jj jj aO) (jg (cZO jj fFm aO aR aO (fun _ _ => jj)) ?_)))
    refine jg (aZa C1 ⟨jj, trivial⟩)<|jg (bVq jj jj b1)<|jq jj jj<|jn<|jf jj<|je<|js<|js<|jr<|jm jj<|jm jj<|jS (bVq jj jj b2)<|jn<|jf jj<|jp ?_
    refine WpD.cut (α := DP n K k A last) (fun s => ⟨[(2, .ptr 2 0), (3, .own 400 0 n n), (4, .one (ex (.int .i64 (n : Int)))), (5, .ptr 5 0), (6, .one (ex (.bool s.neg))), (7, .one (ex (.int .i64 (k : Int))))], (400, outL (fun j => ownP (200 + s.π j) 0 n n) n) :: (rws 200 (bZq s.B n n) ++ [(5, aZL last), (2, [ex (.bool false), ex (.slice none 0 0)])])⟩) ?_ ?_
    ·by_cases hpk : p = k
     ·subst hpk
      have b3 : decide ((p : Int) > (p : Int)) = false := decide_eq_false oM
      refine kO ?_
      refine jr<|jm jj<|jm jj<|jS (bVg jj jj b3)<|jn ?_
      refine kO ?_
      refine WpD.condF rfl ?_
      refine kO ?_
      refine WpD.skip ?_
      refine ⟨⟨neg, π, B, M, el, hπ, hinj, hM, hz⟩, ?_⟩
      dsimp only
      exact Sub.mk sJ ⟨.inl pQ, subBx.fam fFm (fun r _ => PsLe.of rfl) ⟨.inl pQ, .inl pQ, trivial⟩⟩ (LKeep.all ⟨.inr (aZp (π := π) (Fam.live fFm) oM (fun i hi => by have := hπ i hi; omega)), lkAll.fam rfl ⟨.inl rfl, .inl rfl, trivial⟩⟩)
     ·have b3 : decide ((p : Int) > (k : Int)) = true := decide_eq_true oM
      have hpk' := hπ k hkn
      refine kO ?_
      refine jr<|jm jj<|jm jj<|jS (bVg jj jj b3)<|jn ?_
      refine kO ?_
      refine WpD.condT rfl ?_
      refine kO ?_
      refine jr<|jm jj<|jm jj<|jm jj<|jm jj<|jm jj<|jm jj<|jS (aZd jj jj aO) ?_
      refine jS (aZt jj jj aO jj aG)<|jm jj<|jm jj<|jS (aZd jj jj aO) ?_
      refine jS (aZt jj jj aO jj aG)<|jS (aZd jj jj aO)<|jO (bZw jj jj jj aO aG)<|jS (aZd jj jj aO)<|jO (bZw jj jj jj aO aG)<|jn ?_
      refine kO ?_
      refine jr<|jm jj<|jS (bNo jj)<|ja jj<|jn ?_
      refine ⟨⟨!neg, fun i => π (if i = k then p else if i = p then k else i), B, rsw k p M, el.swap oM hpn, fun i hi => hπ _ (by split <;> (try split) <;> omega), rsw_inj hkn hpn hinj, fun i j hi hj => ?_, ?_⟩, ?_⟩
      ·unfold rsw; exact hM _ _ (by split <;> (try split) <;> omega) hj
      ·rw [if_pos rfl]; exact hz
      ·skip
       refine Sub.mk ?_ ⟨.inl ⟨_, rfl, PsLe.of (aZu fun j _ => ?_)⟩, subBx.fam fFm (fun r _ => PsLe.of rfl) ⟨.inl pQ, .inl pQ, trivial⟩⟩ (LKeep.all ⟨.inr (aZp (π := fun i => π (if i = k then p else if i = p then k else i)) (Fam.live fFm) oM (fun i hi => by have := hπ _ (show (if i = k then p else if i = p then k else i) < n by split <;> (try split) <;> omega); omega)), lkAll.fam rfl ⟨.inl rfl, .inl rfl, trivial⟩⟩)
       ·repeat (first | exact trivial | refine jv rfl ?_ | refine jw rfl (js0 rfl) ?_)
       dsimp only
       by_cases h1 : j = k
       ·rw [if_pos h1, if_pos h1]
       ·rw [if_neg h1, if_neg h1]
        by_cases h2 : j = p
        ·rw [if_pos h2, if_pos h2]
        ·rw [if_neg h2, if_neg h2]
    ·rintro ⟨neg, π, B, M, el, hπ, hinj, hM, hz⟩
     have szB : ∀ {i j : Nat}, k ≤ i → i < n → k ≤ j → j < n → zl (B (π i) j) ≤ 9 * K + 82 := fun h1 h2 h3 h4 => (DS.mk (K := K) k neg last π B M hk el hπ hinj hM).zlB hn8 h1 h2 h3 h4
     skip
     skip
     have hpk' := hπ k hkn
     have sk := szB (Nat.le_refl k) hkn (Nat.le_refl k) hkn
     refine kO ?_
     refine jr<|jm jj<|jS (bAd jj jj wO)<|ja jj<|jn<|jb ?_
     refine WpD.loop (α := {x : Nat × (Nat → Nat → Int) // k < x.1 ∧ x.1 ≤ n ∧ ∀ a c, a < n → c < n → x.2 (π a) c = if k < a ∧ k < c ∧ a < x.1 then dnw k last π B a c else B (π a) c}) (fun x => ⟨[(2, .ptr 2 0), (3, .own 400 0 n n), (4, .one (ex (.int .i64 (n : Int)))), (5, .ptr 5 0), (6, .one (ex (.bool neg))), (7, .one (ex (.int .i64 (k : Int)))), (9, .one (ex (.int .i64 (x.1.1 : Int))))], (400, outL (fun j => ownP (200 + π j) 0 n n) n) :: (rws 200 (bZq x.1.2 n n) ++ [(5, aZL last), (2, [ex (.bool false), ex (.slice none 0 0)])])⟩) (fun x => n - x.1.1) ⟨(k + 1, B), oD, oD, fun a c _ _ => by dsimp only; rw [if_neg oM]⟩ ?_ ?_
     ·dsimp only
      exact Sub.mk sJ ⟨.inl pQ, subBx.fam fFm (fun r _ => PsLe.of rfl) ⟨.inl pQ, .inl pQ, trivial⟩⟩ (LKeep.all ⟨.inr (aZp (π := π) (Fam.live fFm) oM (fun i hi => by have := hπ i hi; omega)), lkAll.fam rfl ⟨.inl rfl, .inl rfl, trivial⟩⟩)
     rintro ⟨⟨i, B1⟩, hi1, hi2, hB1⟩
     replace hi1 : k < i := hi1
     replace hi2 : i ≤ n := hi2
     replace hB1 : ∀ a c, a < n → c < n → B1 (π a) c = if k < a ∧ k < c ∧ a < i then dnw k last π B a c else B (π a) c := hB1
     dsimp only
     by_cases hin : i < n
     ·have hpi := hπ i hin
      refine js<|js<|jr<|jm jj<|jm jj<|jS (bLt jj jj)<|jn<|jt jj<|jp<|js<|jb<|js<|jr<|jm jj<|jS (bAd jj jj wO)<|ja jj<|jn<|jb ?_
      refine WpD.loop (α := {x : Nat × (Nat → Nat → Int) // k < x.1 ∧ x.1 ≤ n ∧ ∀ a c, a < n → c < n → x.2 (π a) c = if k < a ∧ k < c ∧ (a < i ∨ a = i ∧ c < x.1) then dnw k last π B a c else B (π a) c}) (fun x => ⟨[(2, .ptr 2 0), (3, .own 400 0 n n), (4, .one (ex (.int .i64 (n : Int)))), (5, .ptr 5 0), (6, .one (ex (.bool neg))), (7, .one (ex (.int .i64 (k : Int)))), (9, .one (ex (.int .i64 (i : Int)))), (10, .one (ex (.int .i64 (x.1.1 : Int))))], (400, outL (fun j => ownP (200 + π j) 0 n n) n) :: (rws 200 (bZq x.1.2 n n) ++ [(5, aZL last), (2, [ex (.bool false), ex (.slice none 0 0)])])⟩) (fun x => n - x.1.1) ⟨(k + 1, B1), oD, oD, fun a c ha hc => by
       dsimp only
       rw [hB1 a c ha hc]
       by_cases h1 : k < a ∧ k < c ∧ a < i
       ·rw [if_pos h1, if_pos oM]
       ·rw [if_neg h1, if_neg oM]⟩ ?_ ?_
      ·dsimp only
       exact Sub.mk sJ ⟨.inl pQ, subBx.fam fFm (fun r _ => PsLe.of rfl) ⟨.inl pQ, .inl pQ, trivial⟩⟩ (LKeep.all ⟨.inr (aZp (π := π) (Fam.live fFm) oM (fun i hi => by have := hπ i hi; omega)), lkAll.fam rfl ⟨.inl rfl, .inl rfl, trivial⟩⟩)
      rintro ⟨⟨j, B2⟩, hj1, hj2, hB2⟩
      replace hj1 : k < j := hj1
      replace hj2 : j ≤ n := hj2
      replace hB2 : ∀ a c, a < n → c < n → B2 (π a) c = if k < a ∧ k < c ∧ (a < i ∨ a = i ∧ c < j) then dnw k last π B a c else B (π a) c := hB2
      dsimp only
      by_cases hjn : j < n
      ·have e1 : B2 (π k) k = B (π k) k := by rw [hB2 k k hkn hkn, if_neg oM]
       have e2 : B2 (π i) j = B (π i) j := by rw [hB2 i j hin hjn, if_neg oM]
       have e3 : B2 (π i) k = B (π i) k := by rw [hB2 i k hin hkn, if_neg oM]
       have e4 : B2 (π k) j = B (π k) j := by rw [hB2 k j hkn hjn, if_neg oM]
       have s1 := szB (i := i) (j := j) oM hin oM hjn
       have s2 := szB (i := i) (j := k) oM hin oM hkn
       have s3 := szB (i := k) (j := j) oM hkn oM hjn
       have t1 := bZh (B (π k) k) (B (π i) j)
       have t2 := bZh (B (π i) k) (B (π k) j)
       have t3 : zl (B (π k) k * B (π i) j - B (π i) k * B (π k) j) ≤ max (zl (B (π k) k * B (π i) j)) (zl (B (π i) k * B (π k) j)) + 1 := by
        have := eZ8 (B (π k) k * B (π i) j) (-(B (π i) k * B (π k) j))
        rw [hZi] at this
        exact this
       have C1 := cmul En (B2 (π k) k) (B2 (π i) j) (by rw [e1]; omega) (by rw [e2]; omega)
       have C2 := cmul En (B2 (π i) k) (B2 (π k) j) (by rw [e3]; omega) (by rw [e4]; omega)
       have C3 := csub En (B2 (π k) k * B2 (π i) j) (B2 (π i) k * B2 (π k) j) (by rw [e1, e2]; show zl _ ≤ _; omega) (by rw [e3, e4]; show zl _ ≤ _; omega)
       have C4 := cquo En (B2 (π k) k * B2 (π i) j - B2 (π i) k * B2 (π k) j) last (by rw [e1, e2, e3, e4]; omega) oM hl0
       have hek : bZq B2 n n (π k) = rowL (fun c => aZL (B2 (π k) c)) n := aZ4 hpk'
       have hei : bZq B2 n n (π i) = rowL (fun c => aZL (B2 (π i) c)) n := aZ4 hpi
       refine js<|js<|jr<|jm jj<|jm jj<|jS (bLt jj jj)<|jn<|jt jj<|jp<|js<|jb<|jr<|jm jj<|jm jj<|jS (aZd jj jj aO) ?_
       refine jS (aZt jj jj aO jj aG)<|jm jj<|jm jj<|jm jj<|jS (aZd jj jj aO) ?_
       refine jS (aZt jj jj aO jj aG)<|jm jj<|jS (aZd jj jj aO)<|jS (cZO jj fFm aO aR aO (fun _ _ => jj)) ?_
       refine jm jj<|jm jj<|jS (aZd jj jj aO) ?_
       refine jS (aZt jj jj aO jj aG)<|jm jj<|jS (aZd jj jj aO)<|jS (cZO jj fFm aO aR aO (fun _ _ => jj)) ?_
       refine jS (aZa C1 ⟨jj, jj, trivial⟩)<|jm jj<|jm jj<|jS (aZd jj jj aO) ?_
       refine jS (aZt jj jj aO jj aG)<|jm jj<|jS (aZd jj jj aO)<|jS (cZO jj fFm aO aR aO (fun _ _ => jj)) ?_
       refine jm jj<|jm jj<|jS (aZd jj jj aO) ?_
       refine jS (aZt jj jj aO jj aG)<|jm jj<|jS (aZd jj jj aO)<|jS (cZO jj fFm aO aR aO (fun _ _ => jj)) ?_
       refine jS (aZa C2 ⟨jj, jj, trivial⟩)<|jS (aZa C3 ⟨jj, jj, trivial⟩)<|jL jj jj jj<|jS (aZa C4 ⟨jj, jj, trivial⟩)<|jS (aZd jj jj aO)<|RG.NW (LT.plain jj (eZp jj jj fFm aO aR aO (fun _ _ => jj))) jj ?_
       refine jn<|jr<|jm jj<|jS (bAd jj jj wO)<|ja jj<|jn ?_
       refine ⟨⟨(j + 1, upm B2 (π i) j (dnw k last π B i j)), oD, oD, fun a c ha hc => ?_⟩, ?_, oD⟩
       ·dsimp only
        unfold upm
        by_cases h1 : a = i ∧ c = j
        ·obtain ⟨rfl, rfl⟩ := h1
         rw [if_pos ⟨rfl, rfl⟩, if_pos oM]
        ·rw [if_neg (fun h => h1 ⟨hinj _ _ ha hin h.1, h.2⟩), hB2 a c ha hc]
         by_cases h2 : k < a ∧ k < c ∧ (a < i ∨ a = i ∧ c < j)
         ·rw [if_pos h2, if_pos oM]
         ·rw [if_neg h2, if_neg oM]
       ·dsimp only
        have hnew : dnw k last π B i j = (B2 (π k) k * B2 (π i) j - B2 (π i) k * B2 (π k) j) / last := by unfold dnw; rw [e1, e2, e3, e4]
        rw [hnew]
        exact Sub.mk sJ ⟨.inl pQ, subBx.fam fFm (fun r _ => PsLe.of (congrFun (cZG hpi) r)) ⟨.inl pQ, .inl pQ, trivial⟩⟩ (LKeep.all ⟨.inr (aZp (π := π) (Fam.live fFm) oM (fun i hi => by have := hπ i hi; omega)), lkAll.fam rfl ⟨.inl rfl, .inl rfl, trivial⟩⟩)
      ·refine js<|js<|jr<|jm jj<|jm jj<|jS (bLf jj jj)<|jn<|jf jj<|je<|jr<|jm jj<|jS (bAd jj jj wO)<|ja jj<|jn ?_
       refine ⟨⟨(i + 1, B2), oD, oD, fun a c ha hc => ?_⟩, ?_, oD⟩
       ·dsimp only
        rw [hB2 a c ha hc]
        by_cases h2 : k < a ∧ k < c ∧ (a < i ∨ a = i ∧ c < j)
        ·rw [if_pos h2, if_pos oM]
        ·rw [if_neg h2, if_neg oM]
       ·dsimp only
        exact Sub.mk sJ ⟨.inl pQ, subBx.fam fFm (fun r _ => PsLe.of rfl) ⟨.inl pQ, .inl pQ, trivial⟩⟩ (LKeep.all ⟨.inr (aZp (π := π) (Fam.live fFm) oM (fun i hi => by have := hπ i hi; omega)), lkAll.fam rfl ⟨.inl rfl, .inl rfl, trivial⟩⟩)
     ·have ein : i = n := oM
      have e1 : B1 (π k) k = B (π k) k := by rw [hB1 k k hkn hkn, if_neg oM]
      have hek : bZq B1 n n (π k) = rowL (fun c => aZL (B1 (π k) c)) n := aZ4 hpk'
      refine js<|js<|jr<|jm jj<|jm jj<|jS (bLf jj jj)<|jn<|jf jj<|je<|jr<|jm jj<|jm jj<|jS (aZd jj jj aO) ?_
      refine jS (aZt jj jj aO jj aG)<|jm jj<|jS (aZd jj jj aO)<|jS (cZO jj fFm aO aR aO (fun _ _ => jj)) ?_
      refine jP jj jj jj jj<|jn<|jr<|jm jj<|jS (bAd jj jj wO)<|ja jj<|jn ?_
      refine ⟨⟨k + 1, neg, B (π k) k, π, B1, M, oM, el.step' hkn hz fun a c h1 h2 h3 h4 => ?_, hπ, hinj, hM⟩, ?_, oD⟩
      ·rw [hB1 a c h2 h4, if_pos oM]; rfl
      ·dsimp only
       rw [← e1]
       exact Sub.mk sJ ⟨.inl pQ, subBx.fam fFm (fun r _ => PsLe.of rfl) ⟨.inl pQ, .inl pQ, trivial⟩⟩ (LKeep.all ⟨.inr (aZp (π := π) (Fam.live fFm) oM (fun i hi => by have := hπ i hi; omega)), lkAll.fam rfl ⟨.inl rfl, .inl rfl, trivial⟩⟩)
  ·have e : p = n := oM
   subst e
   have b2 : ((p : Int) == (p : Int)) = true := beqT rfl
   refine js<|js<|jr<|jm jj<|jm jj<|jS (bLf jj jj)<|jm jj<|jk<|jk<|jk<|jk<|jk<|jk<|jk<|jk<|jk<|jQ jj jj<|jn<|jf jj<|je<|js<|js<|jr<|jm jj<|jm jj<|jS (bVq jj jj b2)<|jn<|jt jj<|js<|jr<|jS (aZj (ps := []) trivial jj)<|jP jj jj jj jj<|jn<|ji ?_
   refine ret1 rfl (.cell rfl rfl CRow.ok rfl) ?_
   rw [el.none hkn hp3]
   exact lZl
 ·have e : k = n := oM
  subst e
  have hdet : det k A = (bif neg then -last else last) := by
   have h1 := el.val
   have h2 := el.lst
   rw [← h2] at h1
   cases neg <;> simp at h1 ⊢ <;> omega
  rw [hdet]
  cases neg with
  | true =>
   have C1 := cneg En last oM
   refine js<|js<|jr<|jm jj<|jm jj<|jS (bLf jj jj)<|jn<|jf jj<|je<|js<|js<|jr<|jm jj<|jn<|jt jj<|js<|jr<|jL jj jj jj<|jS (aZa C1 ⟨jj, trivial⟩)<|jP jj jj jj jj<|jn<|ji ?_
   exact rtC rfl jj jj
  | false =>
   refine js<|js<|jr<|jm jj<|jm jj<|jS (bLf jj jj)<|jn<|jf jj<|je<|js<|js<|jr<|jm jj<|jn<|jf jj<|jp<|js<|jr<|jL jj jj jj<|jP jj jj jj jj<|jn<|ji ?_
   exact rtC rfl jj jj
end
end
end Go.Proofs.YtfmjdlogjmofbaaGreatDoor

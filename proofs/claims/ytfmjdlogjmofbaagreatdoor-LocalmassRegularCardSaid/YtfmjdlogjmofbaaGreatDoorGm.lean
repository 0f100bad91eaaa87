/- Chains; which matrices are good; the matrix of a mZA. -/
import Derived.Test.YtfmjdlogjmofbaaGreatDoorMem
import Derived.Test.YtfmjdlogjmofbaaGreatDoorGg
import Derived.Test.YtfmjdlogjmofbaaGreatDoorKd
import Derived.Test.YtfmjdlogjmofbaaGreatDoorW
set_option maxRecDepth 3000
namespace Go.Proofs.YtfmjdlogjmofbaaGreatDoor
section
open Go.RowKit Limb Det
instance cbody59 : CBody Tryz.prog 59 := ⟨⟨_, Tryz.func59, rfl, by rfl⟩⟩
instance cbody19 : CBody Tryz.prog 19 := ⟨⟨_, Tryz.func19, rfl, by rfl⟩⟩
instance crow_latt : CRow Tryz.prog 24 4 := ⟨⟨_, Tryz.underlying24, rfl, by kernel_rfl⟩⟩
instance qZV : CField Tryz.prog 24 0 0 := ⟨⟨_, _, Tryz.underlying24, rfl, rfl, by kernel_rfl⟩⟩
instance qZU : CField Tryz.prog 24 1 1 := ⟨⟨_, _, Tryz.underlying24, rfl, rfl, by kernel_rfl⟩⟩
instance qZT : CField Tryz.prog 24 2 2 := ⟨⟨_, _, Tryz.underlying24, rfl, rfl, by kernel_rfl⟩⟩
theorem lZi : cZw Tryz.prog 107 [.slice none 0 0, .int .i64 0] := ⟨by kernel_rfl, by simp [Value.oneCell']⟩
instance qZC : CStruct Tryz.prog 107 [(0, 1), (1, 1)] [.slice none 0 0, .int .i64 0] := ⟨⟨lZi, _, Tryz.underlying107, fun _ => by kernel_rfl⟩⟩
instance cone_u8' : COne Tryz.prog 5 := ⟨⟨_, Tryz.underlying5, rfl, by kernel_rfl⟩⟩
def kk (n : Nat) (fork : Bool) (i : Nat) : Nat := if fork = true ∧ i + 1 = n ∧ 3 < n then i - 2 else i - 1
def kZ (n : Nat) (fork : Bool) (i : Nat) : Int := if i = 0 then -1 else ((kk n fork i : Nat) : Int)
theorem kZ_no {n : Nat} {fork : Bool} {i : Nat} (h : ¬ (fork = true ∧ i + 1 = n ∧ 3 < n)) : kZ n fork i = (i : Int) - 1 := by
 unfold kZ kk
 rw [if_neg h]
 split <;> omega
theorem kZ_ye {n : Nat} {fork : Bool} {i : Nat} (h : fork = true ∧ i + 1 = n ∧ 3 < n) : kZ n fork i = (i : Int) - 2 := by
 unfold kZ kk
 rw [if_pos h]
 split <;> omega
theorem kk_lt {n : Nat} {fork : Bool} {i : Nat} (h : 0 < i) : kk n fork i < i := by unfold kk; split <;> omega
def chM (n : Nat) (fork : Bool) : Nat → Nat → Int := fun r c => if r = c then 2 else if c < r then (if c = kk n fork r then -1 else 0) else (if r = kk n fork c then -1 else 0)
def chP (n : Nat) (fork : Bool) (i : Nat) : Nat → Nat → Int := fun r c => if r < i ∧ c < i then chM n fork r c else 0
section
variable (En : Ev)
theorem mZ1 (n : Nat) (fork : Bool) (hn : 1 ≤ n) (hn8 : n ≤ 8) : FnG Tryz.prog En 56 ([ex (.int .i64 (n : Int)), ex (.bool fork)].map .one) [] (.own 400 0 n n) (mbx 400 200 (fun i => i) n n (aZy (chM n fork) n n)) := by
 refine aZr Tryz.func56 rfl Tryz.ntmps56 rfl ?_
 intro w0 h0 c
 refine js<|jr<|ja jj<|jn<|js<|jr<|jm jj<|jT (bZ7 jj jj jj jj oM jj jj)<|ja jj<|jn<|js<|js<|jr<|jm jj<|jS (aZE jj CSlice.ok)<|jm jj<|jn<|jb ?_
 refine WpD.loop (α := {i : Nat // i ≤ n}) (fun i => ⟨[(0, .one (ex (.int .i64 (n : Int)))), (1, .one (ex (.bool fork))), (5, .own 400 0 n n), (11, .one (ex (.int .i64 (n : Int)))), (12, .one (ex (.int .i64 (i.1 : Int))))], (400, outL (zout 200 i.1 n) n) :: rws 200 (aZy (chP n fork i.1) i.1 n)⟩) (fun i => n - i.1) ⟨0, Nat.zero_le _⟩ ?_ ?_
 ·dsimp only
  refine Sub.mv 400 9 oM oM oM ⟨pK, pK, ⟨_, rfl, aZF _ _, rfl, rfl, rfl, js0 rfl⟩, pK, pK, trivial⟩ ⟨BMv.to rfl rfl uG oM oM (congrArg some (bZ9 [ex (.slice none 0 0)] n)) (fun i _ => ⟨PLe.refl _, by unfold zout; rw [if_neg oM]; exact inferInstance⟩), mvBx.fam (fun j _ => .inl (aZo oM)) trivial⟩
 rintro ⟨i, hi⟩
 dsimp only
 by_cases hin : i < n
 ·have e1 : IntKind.i64.wrap ((i : Int) - 1) = (i : Int) - 1 := w64 oM oM
  refine js<|jr<|jS (bLt jj jj)<|jn<|js<|jt jj<|jp<|js<|jb<|js<|jr<|jm jj<|ja jj<|jn<|js<|jr<|jm jj<|jm jj<|jm jj<|jT (bZ7 jj jj jj jj oM jj jj)<|jS (aZd jj jj aO)<|jO (bZw jj jj jj aO aG)<|jn<|js<|jr<|jm jj<|jm jj<|jS (aZd jj jj aO) ?_
  refine jS (aZt jj jj hin (if_pos jj) uG)<|jm jj<|jS (aZd jj jj aO)<|jO (aZK jj jj jj (by rw [gZQ, Nat.mul_one]; exact hin) (gZP hin _))<|jn<|js<|jr<|jm jj<|jS (bSu jj jj e1)<|ja jj<|jn ?_
  refine WpD.cut (α := Unit) (fun _ => ⟨[(0, .one (ex (.int .i64 (n : Int)))), (1, .one (ex (.bool fork))), (5, .own 400 0 n n), (6, .one (ex (.int .i64 (i : Int)))), (7, .one (ex (.int .i64 (kZ n fork i)))), (11, .one (ex (.int .i64 (n : Int)))), (12, .one (ex (.int .i64 (i : Int))))], (400, outL (fun j => if j = i then ownP 18 0 n n else zout 200 i n j) n) :: (rws 200 (aZy (chP n fork i) i n) ++ [(18, outL (fun j => if j = i then ex (.int .i64 2) else ex (.int .i64 0)) n)])⟩) ?_ ?_
  ·have hL : ∀ p ∈ outL (fun j => if j = i then ownP 18 0 n n else zout 200 i n j) n, ∀ (bx : Bx), look bx 18 ≠ none → (∀ j, j < 8 → look bx (200 + j) ≠ none) → nref bx p := fun p hp bx h18 hf => by
    obtain ⟨a, ha, rfl⟩ := cZh hp
    by_cases h1 : a = i
    ·rw [if_pos h1]; exact bZU h18 uG
    ·rw [if_neg h1]
     unfold zout
     by_cases h2 : a < i
     ·rw [if_pos h2]; exact bZU (hf a oM) uG
     ·rw [if_neg h2]; exact bZH
   have fin : ∀ (v : Int), v = kZ n fork i → ∀ (s : Sl), look s 0 = some (.one (ex (.int .i64 (n : Int)))) → look s 1 = some (.one (ex (.bool fork))) → look s 5 = some (.own 400 0 n n) → look s 6 = some (.one (ex (.int .i64 (i : Int)))) → look s 7 = some (.one (ex (.int .i64 v))) → look s 11 = some (.one (ex (.int .i64 (n : Int)))) → look s 12 = some (.one (ex (.int .i64 (i : Int)))) → ∀ (B : Bx), look B 400 = some (outL (fun j => if j = i then ownP 18 0 n n else zout 200 i n j) n) → Fam B 200 (aZy (chP n fork i) i n) → look B 18 = some (outL (fun j => if j = i then ex (.int .i64 2) else ex (.int .i64 0)) n) →
     Sub ⟨s, B⟩ ⟨[(0, .one (ex (.int .i64 (n : Int)))), (1, .one (ex (.bool fork))), (5, .own 400 0 n n), (6, .one (ex (.int .i64 (i : Int)))), (7, .one (ex (.int .i64 (kZ n fork i)))), (11, .one (ex (.int .i64 (n : Int)))), (12, .one (ex (.int .i64 (i : Int))))], (400, outL (fun j => if j = i then ownP 18 0 n n else zout 200 i n j) n) :: (rws 200 (aZy (chP n fork i) i n) ++ [(18, outL (fun j => if j = i then ex (.int .i64 2) else ex (.int .i64 0)) n)])⟩ := by
    intro v hv s s0 s1 s5 s6 s7 s11 s12 B b1 b2 b3
    subst hv
    exact Sub.mk (jv s0 (jv s1 (jw s5 (js0 rfl) (jv s6 (jv s7 (jv s11 (jv s12 trivial))))))) ⟨.inl ⟨_, b1, PsLe.refl _⟩, subBx.fam b2 (fun _ _ => PsLe.refl _) ⟨.inl ⟨_, b3, PsLe.refl _⟩, trivial⟩⟩ (LKeep.all ⟨.inr (fun p hp => hL p hp _ (js0 rfl) (Fam.live fFm)), lkAll.fam rfl ⟨.inl rfl, trivial⟩⟩)
   have k0 : fork = false → (i : Int) - 1 = kZ n fork i := fun hf => (kZ_no (by rw [hf]; simp)).symm
   cases fork with
   | false =>
    refine kO ?_
    refine jr<|jm jj<|jm jj ?_
    first | refine jgm jj ?_ | refine jk ?_
    first | refine jgm jj ?_ | refine jk ?_
    first | refine jg (aZ6 jj jj (fun w => cZy w _ _ _ _ _ _)) ?_ | refine jk ?_
    first | refine jg (aZ6 jj jj (fun w => cZ6 w _ _ _ _ _ _)) ?_ | refine jk ?_
    first | refine jq jj jj ?_ | refine jQ jj jj ?_
    refine jm jj ?_
    first | refine jgm jj ?_ | refine jk ?_
    first | refine jg (aZ6 jj jj (fun w => dZB w _ _ _ _ _ _)) ?_ | refine jk ?_
    first | refine jq jj jj ?_ | refine jQ jj jj ?_
    refine jn ?_
    refine kO ?_
    refine WpD.condF rfl ?_
    refine kO ?_
    refine WpD.skip ?_
    exact ⟨(), fin _ (k0 rfl) _ rfl rfl rfl rfl rfl rfl rfl _ rfl fFm rfl⟩
   | true =>
    have e2 : IntKind.i64.wrap ((n : Int) - 1) = (n : Int) - 1 := w64 oM oM
    by_cases h1 : i + 1 = n
    ·have b1 : ((i : Int) == (n : Int) - 1) = true := beqT oM
     by_cases h2 : 3 < n
     ·have b2 : decide ((n : Int) > 3) = true := decide_eq_true oM
      have e3 : IntKind.i64.wrap ((i : Int) - 2) = (i : Int) - 2 := w64 oM oM
      refine kO ?_
      refine jr<|jm jj<|jm jj ?_
      first | refine jgm jj ?_ | refine jk ?_
      first | refine jgm jj ?_ | refine jk ?_
      first | refine jg (bSu jj jj e2) ?_ | refine jk ?_
      first | refine jg (bVq jj jj b1) ?_ | refine jk ?_
      first | refine jq jj jj ?_ | refine jQ jj jj ?_
      refine jm jj ?_
      first | refine jgm jj ?_ | refine jk ?_
      first | refine jg (bVg jj jj b2) ?_ | refine jk ?_
      first | refine jq jj jj ?_ | refine jQ jj jj ?_
      refine jn ?_
      refine kO ?_
      refine WpD.condT rfl ?_
      refine kO ?_
      refine jr<|jm jj<|jS (bSu jj jj e3)<|ja jj<|jn ?_
      exact ⟨(), fin _ (kZ_ye ⟨rfl, h1, h2⟩).symm _ rfl rfl rfl rfl rfl rfl rfl _ rfl fFm rfl⟩
     ·have b2 : decide ((n : Int) > 3) = false := decide_eq_false oM
      refine kO ?_
      refine jr<|jm jj<|jm jj ?_
      first | refine jgm jj ?_ | refine jk ?_
      first | refine jgm jj ?_ | refine jk ?_
      first | refine jg (bSu jj jj e2) ?_ | refine jk ?_
      first | refine jg (bVq jj jj b1) ?_ | refine jk ?_
      first | refine jq jj jj ?_ | refine jQ jj jj ?_
      refine jm jj ?_
      first | refine jgm jj ?_ | refine jk ?_
      first | refine jg (bVg jj jj b2) ?_ | refine jk ?_
      first | refine jq jj jj ?_ | refine jQ jj jj ?_
      refine jn ?_
      refine kO ?_
      refine WpD.condF rfl ?_
      refine kO ?_
      refine WpD.skip ?_
      exact ⟨(), fin _ (kZ_no (fun h => h2 h.2.2)).symm _ rfl rfl rfl rfl rfl rfl rfl _ rfl fFm rfl⟩
    ·have b1 : ((i : Int) == (n : Int) - 1) = false := beqF oM
     refine kO ?_
     refine jr<|jm jj<|jm jj ?_
     first | refine jgm jj ?_ | refine jk ?_
     first | refine jgm jj ?_ | refine jk ?_
     first | refine jg (bSu jj jj e2) ?_ | refine jk ?_
     first | refine jg (bVq jj jj b1) ?_ | refine jk ?_
     first | refine jq jj jj ?_ | refine jQ jj jj ?_
     refine jm jj ?_
     first | refine jgm jj ?_ | refine jk ?_
     first | refine jg (aZ6 jj jj (fun w => dZB w _ _ _ _ _ _)) ?_ | refine jk ?_
     first | refine jq jj jj ?_ | refine jQ jj jj ?_
     refine jn ?_
     refine kO ?_
     refine WpD.condF rfl ?_
     refine kO ?_
     refine WpD.skip ?_
     exact ⟨(), fin _ (kZ_no (fun h => h1 h.2.1)).symm _ rfl rfl rfl rfl rfl rfl rfl _ rfl fFm rfl⟩
  rintro ⟨⟩
  skip
  skip
  by_cases h0 : i = 0
  ·have b1 : decide (kZ n fork i ≥ 0) = false := decide_eq_false (by unfold kZ; rw [if_pos h0]; omega)
   refine kO ?_
   refine jr<|jm jj<|jS (bVh jj jj b1)<|jn<|jf jj<|jp<|jr<|jS (bAd jj jj wO)<|jm jj<|jn ?_
   refine ⟨⟨i + 1, oM⟩, ?_, oD⟩
   dsimp only
   refine Sub.mv (200 + i) 18 oM oM oM ⟨pK, pK, ⟨_, rfl, aZ7 oM oM, rfl, rfl, rfl, js0 rfl⟩, pK, pK, trivial⟩ ⟨BMv.out rfl oM oM uG rfl (cZB oM oM oM hn8 (Fam.live fFm)), mvBx.famA fFm oM oM oM oM (fun j _ hj => PsLe.of ?_) rfl (PsLe.of ?_) trivial⟩ rfl ?_
   ·rw [aZo oM, aZo oM]
   ·rw [aZl oM]
    refine aZu fun j hj => ?_
    unfold chP
    by_cases h : j = i
    ·rw [if_pos h, if_pos (show i < i + 1 ∧ j < i + 1 by omega)]
     unfold chM
     rw [if_pos h.symm]
    ·rw [if_neg h, if_neg (show ¬ (i < i + 1 ∧ j < i + 1) by omega)]
   ·dsimp only
    rw [aZc, if_neg oM, cZu, if_neg oM]; rfl
  ·have hkz : kZ n fork i = ((kk n fork i : Nat) : Int) := by unfold kZ; rw [if_neg h0]
   have hki := kk_lt (n := n) (fork := fork) (show 0 < i by omega)
   rw [hkz]
   generalize hk : kk n fork i = k at *
   have hkn : k < n := oM
   have hgk : (fun j => if j = i then ownP 18 0 n n else zout 200 i n j) k = ownP (200 + k) 0 n n := by
    dsimp only; rw [if_neg oM]; unfold zout; rw [if_pos hki]
   have he : aZy (chP n fork i) i n k = outL (fun c => ex (.int .i64 (chP n fork i k c))) n := aZl hki
   refine kO ?_
   refine jr<|jm jj<|jS (bHt jj jj)<|jn<|jt jj<|jr<|jm jj<|jm jj<|jS (aZd jj jj aO) ?_
   refine jS (aZt jj jj hin (if_pos jj) uG)<|jm jj<|jm jj<|jm jj<|jS (aZd jj jj aO) ?_
   refine jS (aZt jj jj hkn hgk uG)<|jm jj<|jS (aZd jj jj aO)<|jO (aZK jj jj jj (by rw [bZc, Nat.mul_one]; exact hkn) (Eq.trans (by rw [Nat.mul_one]) (dZz hkn)))<|jS (aZd jj jj aO)<|RG.NW (LT.plain jj (bZO jj jj fFm oM he hin)) jj ?_
   refine jn<|jr<|jS (bAd jj jj wO)<|jm jj<|jn ?_
   refine ⟨⟨i + 1, oM⟩, ?_, oD⟩
   dsimp only
   refine Sub.mv (200 + i) 18 oM oM oM ⟨pK, pK, ⟨_, rfl, aZ7 oM oM, rfl, rfl, rfl, js0 rfl⟩, pK, pK, trivial⟩ ⟨BMv.out rfl oM oM uG rfl (cZB oM oM oM hn8 (Fam.live fFm)), mvBx.famA fFm oM oM oM oM (fun j _ hj => PsLe.of ?_) rfl (PsLe.of ?_) trivial⟩ rfl ?_
   ·by_cases hjk : j = k
    ·subst hjk
     rw [dZA, aZl oM]
     refine aZu fun c hc => ?_
     unfold chP
     by_cases h : c = i
     ·rw [if_pos h, if_pos (show j < i + 1 ∧ c < i + 1 by omega)]
      unfold chM
      rw [if_neg oM, if_neg oM, h, if_pos hk.symm]
     ·rw [if_neg h]
      by_cases h2 : c < i
      ·rw [if_pos ⟨hki, h2⟩, if_pos (show j < i + 1 ∧ c < i + 1 by omega)]
      ·rw [if_neg oM, if_neg oM]
    ·rw [eZl hjk]
     by_cases h : j < i
     ·rw [aZl h, aZl oM]
      refine aZu fun c hc => ?_
      unfold chP
      by_cases h2 : c < i
      ·rw [if_pos ⟨h, h2⟩, if_pos oM]
      ·rw [if_neg oM]
       by_cases h3 : c = i
       ·rw [if_pos oM]
        unfold chM
        rw [if_neg oM, if_neg oM, h3, hk, if_neg hjk]
       ·rw [if_neg oM]
     ·rw [aZo h, aZo oM]
   ·rw [aZl oM]
    refine aZu fun j hj => ?_
    unfold chP
    by_cases h1 : j = k
    ·rw [if_pos h1, if_pos (show i < i + 1 ∧ j < i + 1 by omega)]
     unfold chM
     rw [if_neg oM, if_pos oM, hk, if_pos h1]
    ·rw [if_neg h1]
     by_cases h : j = i
     ·rw [if_pos h, if_pos (show i < i + 1 ∧ j < i + 1 by omega)]
      unfold chM
      rw [if_pos h.symm]
     ·rw [if_neg h]
      by_cases h2 : j < i
      ·rw [if_pos (show i < i + 1 ∧ j < i + 1 by omega)]
       unfold chM
       rw [if_neg oM, if_pos h2, hk, if_neg h1]
      ·rw [if_neg oM]
   ·dsimp only
    rw [aZc, if_neg oM, cZu, if_neg oM]; rfl
 ·have e : i = n := oM
  subst e
  refine js<|jr<|jS (bLf jj jj)<|jn<|js<|jf jj<|je<|js<|jr<|jm jj<|ja jj<|jn<|ji ?_
  refine dZm rfl rfl (SLe.rfl' _) (js0 rfl) ⟨.inl ⟨_, rfl, PsLe.of (dZv ..)⟩, subBx.fam fFm (fun r _ => PsLe.of (congrFun (bZy fun a b h1 h2 => ?_) r)) trivial⟩ (LKeep.all ⟨.inr (aZp (Fam.live fFm) oM oM), lkAll.fam rfl trivial⟩)
  unfold chP
  rw [if_pos ⟨h1, h2⟩]
structure Sb (A : Nat → Nat → Int) (n : Nat) : Prop where
 lo : ∀ i j, i < n → j < n → -15 ≤ A i j
 hi : ∀ i j, i < n → j < n → A i j ≤ 15
 sy : ∀ i j, i < n → j < n → A i j = A j i
theorem Sb.zl {A : Nat → Nat → Int} {n : Nat} (h : Sb A n) : ZL A n n 2 := fun i j hi hj => bZa (by have := h.lo i j hi hj; omega) (by have := h.hi i j hi hj; omega)
theorem Sb.i64 {A : Nat → Nat → Int} {n : Nat} (h : Sb A n) : ∀ i j, i < n → j < n → I64 (A i j) := fun i j hi hj => ⟨by have := h.lo i j hi hj; omega, by have := h.hi i j hi hj; omega⟩
def kZX (A : Nat → Nat → Int) (n : Nat) : Bool := posB A n && decide (det n A ≤ 10000)
theorem cmpZ_le (x y : Int) : decide (cmpZ x y ≤ 0) = decide (x ≤ y) := by
 unfold cmpZ
 by_cases h : x < y
 ·rw [if_pos h, decide_eq_true (p := x ≤ y) oM]; rfl
 ·rw [if_neg h]
  by_cases h2 : y < x
  ·rw [if_pos h2, decide_eq_false (p := x ≤ y) oM]; rfl
  ·rw [if_neg h2, decide_eq_true (p := x ≤ y) oM]; rfl
theorem mgood (A : Nat → Nat → Int) (n : Nat) (hn : 1 ≤ n) (hn8 : n ≤ 8) (hA : Sb A n) : Fn Tryz.prog En 59 [imt A n n] (ex (.bool (kZX A n))) := by
 have C1 := mof En A n n hn hn8 hn hn8 hA.i64
 have C2 := hZE En A n 2 hn hn8 oM hA.zl hA.sy
 have C3 := mdet En A n 2 hn hn8 oM hA.zl
 have C4 := cZ5 En 10000 oM oM
 have z1 : zl (det n A) ≤ 9 * 2 + 82 := dZf oM hA.zl
 have z2 : zl 10000 ≤ 2 := bZa oM oM
 have C5 := ccmp En (det n A) 10000 oM oM
 unfold kZX
 cases hp : posB A n with
 | true =>
  rw [hp] at C2
  have b1 : ((bif true then (0 : Int) else 5) == 0) = true := rfl
  refine aZb Tryz.func59 rfl Tryz.ntmps59 rfl ?_
  intro w0 h0
  refine js<|jr<|ja jj<|jn<|js<|jr<|jm jj<|jS (aZa C1 tA)<|ja jj<|jn<|js<|jr<|jm jj<|jS (aZa C2 tA)<|jS (bVq jj jj b1)<|jm jj (jgm jj (jg (aZa C3 tA) (jg (aZa C4 tA) (jg (aZa C5 tB) (jg (bVe jj jj (cmpZ_le _ _)) (jq jj jj (ja jj (jn (ji ?_)))))))))
  exact rtT rfl jj
 | false =>
  rw [hp] at C2
  have b1 : ((bif false then (0 : Int) else 5) == 0) = false := rfl
  refine aZb Tryz.func59 rfl Tryz.ntmps59 rfl ?_
  intro w0 h0
  refine js<|jr<|ja jj<|jn<|js<|jr<|jm jj<|jS (aZa C1 tA)<|ja jj<|jn<|js<|jr<|jm jj<|jS (aZa C2 tA)<|jS (bVq jj jj b1)<|jm jj<|jk<|jk<|jk<|jk<|jk<|jQ jj jj<|ja jj<|jn<|ji ?_
  exact rtT rfl jj
def cand (f : Nat → Int) (N n : Nat) : Nat → (Nat → Nat → Int) × Nat
 | 0 => (gnM f N 0 n, 0 + n + tri n)
 | 1 => (gnM f N 0 n, 0 + n + tri n)
 | 2 => (gnM f N 0 n, 0 + n + tri n)
 | 3 => (gnM f N 0 n, 0 + n + tri n)
 | 4 => (upm (chM n false) 0 0 (2 + ((bl f N 0 3 : Nat) : Int)), 0 + 1)
 | 5 => (upm (chM n true) (n - 1) (n - 1) (2 + ((bl f N 0 2 : Nat) : Int)), 0 + 1)
 | 6 => (dgM f N 0 9, 0 + n)
 | _ => (dgM f N 0 1, 0 + n)
theorem gO_bd {f : Nat → Int} {N : Nat} (p i j : Nat) : -3 ≤ gO f N p i j ∧ gO f N p i j ≤ 3 := by
 unfold gO
 have h1 := Int.tmod_lt_of_pos (gt f N (p + tri i + j)) (show (0 : Int) < 3 by omega)
 have h2 := Int.lt_tmod_of_pos (gt f N (p + tri i + j)) (show (0 : Int) < 3 by omega)
 omega
theorem Sb.gn (f : Nat → Int) (N p n : Nat) : Sb (gnM f N p n) n := by
 have key : ∀ i j, -15 ≤ gnM f N p n i j ∧ gnM f N p n i j ≤ 15 := fun i j => by
  unfold gnM gnP
  have h1 := hZc f N (p + i) (show 1 ≤ 6 by omega)
  have h2 := gO_bd (f := f) (N := N) (p + n) i j
  have h3 := gO_bd (f := f) (N := N) (p + n) j i
  split <;> (try split) <;> (try split) <;> omega
 refine ⟨fun i j _ _ => (key i j).1, fun i j _ _ => (key i j).2, fun i j _ _ => ?_⟩
 unfold gnM gnP
 by_cases h : i = j
 ·subst h; rfl
 ·rw [if_neg h, if_neg (show ¬ j = i from fun e => h e.symm)]
  by_cases h2 : j < i
  ·rw [if_pos h2, if_neg (show ¬ i < j by omega)]
  ·rw [if_neg h2, if_pos (show i < j by omega)]
theorem Sb.dg (f : Nat → Int) (N p n most : Nat) (h : 1 ≤ most) (h2 : most ≤ 14) : Sb (dgM f N p most) n := by
 refine ⟨fun i j _ _ => ?_, fun i j _ _ => ?_, fun i j _ _ => ?_⟩
 ·unfold dgM; split <;> omega
 ·have := hZc f N (p + i) h
  unfold dgM; split <;> omega
 ·unfold dgM
  by_cases e : i = j
  ·subst e; rfl
  ·rw [if_neg e, if_neg fun h => e h.symm]
theorem Sb.ch (n : Nat) (fork : Bool) (r : Nat) (v : Int) (h1 : 0 ≤ v) (h2 : v ≤ 15) : Sb (upm (chM n fork) r r v) n := by
 have key : ∀ i j, -15 ≤ chM n fork i j ∧ chM n fork i j ≤ 15 := fun i j => by unfold chM; split <;> (try split) <;> (try split) <;> omega
 refine ⟨fun i j _ _ => ?_, fun i j _ _ => ?_, fun i j _ _ => ?_⟩
 ·unfold upm; split; omega; exact (key i j).1
 ·unfold upm; split; omega; exact (key i j).2
 ·unfold upm
  by_cases e : i = r ∧ j = r
  ·rw [if_pos e, if_pos ⟨e.2, e.1⟩]
  ·rw [if_neg e, if_neg fun h => e ⟨h.2, h.1⟩]
   unfold chM
   by_cases e2 : i = j
   ·subst e2; rfl
   ·rw [if_neg e2, if_neg (show ¬ j = i from fun h => e2 h.symm)]
    by_cases h3 : j < i
    ·rw [if_pos h3, if_neg (show ¬ i < j by omega)]
    ·rw [if_neg h3, if_pos (show i < j by omega)]
theorem Sb.cand (f : Nat → Int) (N n q : Nat) : Sb (cand f N n q).1 n := by
 have h1 := hZc f N 0 (show 1 ≤ 3 by omega)
 have h2 := hZc f N 0 (show 1 ≤ 2 by omega)
 unfold Go.Proofs.YtfmjdlogjmofbaaGreatDoor.cand
 split
 ·exact Sb.gn ..
 ·exact Sb.gn ..
 ·exact Sb.gn ..
 ·exact Sb.gn ..
 ·exact Sb.ch _ _ _ _ oM oM
 ·exact Sb.ch _ _ _ _ oM oM
 ·exact Sb.dg _ _ _ _ _ oM oM
 ·exact Sb.dg _ _ _ _ _ oM oM
theorem kZp : ∀ {n : Nat} {D : Nat → Int} {A : Mx}, (∀ i j, i < n → j < n → A i j = if i = j then D i else 0) → (∀ i, i < n → 1 ≤ D i ∧ D i ≤ 2) → 0 < det n A ∧ det n A ≤ 2 ^ n
 | 0, _, A, _, _ => by show (0 : Int) < 1 ∧ (1 : Int) ≤ 2 ^ 0; decide
 | n + 1, D, A, h, hD => by
  have e : det (n + 1) A = A 0 0 * det n (mn 0 A) := by
   show sm (fun i => sg i * A i 0 * det n (mn i A)) (n + 1) = _
   rw [jZn (k := 0) oM fun i hi hne => by rw [h i 0 hi oM, if_neg hne]; simp]
   show 1 * A 0 0 * _ = _
   rw [Int.one_mul]
  obtain ⟨h1, h2⟩ := kZp (n := n) (D := fun i => D (i + 1)) (A := mn 0 A) (fun i j hi hj => by
   show A (sk 0 i) (j + 1) = _
   rw [eZo, h _ _ oM oM]
   by_cases e : i = j
   ·rw [if_pos e, if_pos oM]
   ·rw [if_neg e, if_neg oM]) (fun i hi => hD (i + 1) oM)
  have h3 := hD 0 oM
  have h4 : A 0 0 = D 0 := by rw [h 0 0 oM oM, if_pos rfl]
  rw [e, h4]
  have h5 : (2 : Int) ^ (n + 1) = 2 ^ n * 2 := Int.pow_succ ..
  rcases (show D 0 = 1 ∨ D 0 = 2 by omega) with e1 | e1 <;> rw [e1] <;> omega
theorem mZQ (f : Nat → Int) (N p n : Nat) (hn : n ≤ 8) : (∀ k, k < n → 0 < det (k + 1) (dgM f N p 2)) ∧ det n (dgM f N p 2) ≤ 10000 := by
 have key : ∀ k, k ≤ 8 → 0 < det k (dgM f N p 2) ∧ det k (dgM f N p 2) ≤ 2 ^ k := fun k _ => kZp (D := fun i => 1 + ((bl f N (p + i) 2 : Nat) : Int)) (fun i j _ _ => rfl) fun i _ => by have := hZc f N (p + i) (show 1 ≤ 2 by omega); omega
 refine ⟨fun k hk => (key (k + 1) oM).1, ?_⟩
 have h1 := (key n hn).2
 have h2 : (2 : Int) ^ n ≤ 2 ^ 8 := by
  have := Nat.pow_le_pow_right (show 0 < 2 by omega) hn
  exact_mod_cast this
 have h3 : (2 : Int) ^ 8 = 256 := by decide
 omega
structure Gm (G : Nat → Nat → Int) (n : Nat) : Prop where
 n1 : 1 ≤ n
 n7 : n ≤ 7
 sb : Sb G n
 pos : ∀ k, k < n → 0 < det (k + 1) G
 top : det n G ≤ 10000
def iZM (f : Nat → Int) (N n q : Nat) : Nat → Nat → Int := if kZX (cand f N n q).1 n = true then (cand f N n q).1 else dgM f N (cand f N n q).2 2
theorem Gm.gram (f : Nat → Int) (N n q : Nat) (h1 : 1 ≤ n) (h7 : n ≤ 7) : Gm (iZM f N n q) n := by
 unfold iZM
 by_cases h : kZX (Go.Proofs.YtfmjdlogjmofbaaGreatDoor.cand f N n q).1 n = true
 ·rw [if_pos h]
  unfold kZX posB at h
  rw [Bool.and_eq_true] at h
  exact ⟨h1, h7, Sb.cand .., of_decide_eq_true h.1, of_decide_eq_true h.2⟩
 ·rw [if_neg h]
  obtain ⟨g1, g2⟩ := mZQ f N (Go.Proofs.YtfmjdlogjmofbaaGreatDoor.cand f N n q).2 n oM
  exact ⟨h1, h7, Sb.dg _ _ _ _ _ oM oM, g1, g2⟩
def latP (dim kind : Nat) (f : Nat → Int) (N : Nat) (f' : Nat → Int) (N' : Nat) : Pd := aggP [ex (.int .u8 (dim : Int)), ex (.int .u8 (kind : Int)), tpL f N, tpL f' N']
end
end
section
open Go.RowKit Limb Det
section
variable (En : Ev)
theorem mgram (dim kind : Nat) (f : Nat → Int) (N : Nat) (f' : Nat → Int) (N' : Nat) (hT : Tp f N) (hd : dim < 256) : Fn Tryz.prog En 19 [latP dim kind f N f' N', ex (.int .i64 7)] (imt (iZM f N (1 + dim % 7) (kind % 8)) (1 + dim % 7) (1 + dim % 7)) := by
 have hn7 : 1 + dim % 7 ≤ 7 := oM
 have hn1 : 1 ≤ 1 + dim % 7 := oM
 have e1 : IntKind.i64.wrap (dim : Int) = (dim : Int) := w64 oM oM
 have e2 : ((dim : Int)).tmod 7 = ((dim % 7 : Nat) : Int) := by rw [show (7 : Int) = ((7 : Nat) : Int) from rfl, ← Int.ofNat_tmod]
 have e3 : IntKind.i64.wrap (1 + ((dim % 7 : Nat) : Int)) = ((1 + dim % 7 : Nat) : Int) := by rw [w64 oM oM]; omega
 have e4 : ((kind : Int)).tmod 8 = ((kind % 8 : Nat) : Int) := by rw [show (8 : Int) = ((8 : Nat) : Int) from rfl, ← Int.ofNat_tmod]
 unfold iZM
 generalize hn : 1 + dim % 7 = n at *
 generalize hq : kind % 8 = q at *
 have hq8 : q < 8 := oM
 have hsb := Sb.cand f N n q
 have CG := mgood En (cand f N n q).1 n hn1 oM hsb
 have C2 := mdiag En f N (cand f N n q).2 n 2 hT oM oM oM
 refine aZb Tryz.func19 rfl Tryz.ntmps19 rfl ?_
 intro w0 h0
 refine js<|jr<|jB jj jj jj<|ja jj<|jn<|js<|jr<|jF jj jj<|jl jj jj jj<|jS (aZj (ps := [(_, _)]) ⟨jj, Part.c jj, trivial⟩ jj)<|jB jj jj jj<|ja jj<|jn<|js<|jr<|jF jj jj<|jl jj jj jj<|jS (bCv jj e1)<|jm jj<|jS (bRe jj jj e2)<|jS (bAd jj jj e3)<|ja jj<|jn<|js<|jr<|ja jj<|jn ?_
 refine WpD.cut (α := Unit) (fun _ => ⟨[(5, .ptr 11 0), (6, .one (ex (.int .i64 (n : Int)))), (7, .one (imt (cand f N n q).1 n n))], [(11, tpc f N (cand f N n q).2)]⟩) ?_ ?_
 ·have e0 : (0 : Int) = ((min 0 N : Nat) : Int) := by simp
  have CGN := oZ8 En f N 0 n hT oM
  have CD9 := mdiag En f N 0 n 9 hT oM oM oM
  have CD1 := mdiag En f N 0 n 1 hT oM oM oM
  have CB3 := jZS En f N 0 3 hT oM oM
  have CB2 := jZS En f N 0 2 hT oM oM
  have CF := mZ1 En n false hn1 oM
  have CT := mZ1 En n true hn1 oM
  refine WpD.sub (τ := ⟨[(2, .ptr 2 0), (5, .ptr 11 0), (6, .one (ex (.int .i64 (n : Int))))], [(2, [ex (.int .u8 (dim : Int)), ex (.int .u8 (kind : Int)), tpL f N, tpL f' N']), (11, tpc f N 0)]⟩) ?_ ?_
  ·exact Sub.mk ⟨⟨_, rfl, SLe.rfl' _⟩, js0 rfl, ⟨_, rfl, SLe.rfl' _⟩, js0 rfl, pK, trivial, trivial⟩ ⟨.inl pQ, .inl ⟨_, rfl, ⟨PLe.refl _, fun h v hv => by show v = _; rw [← e0]; exact hv, trivial⟩⟩, trivial⟩
  rcases (show q = 0 ∨ q = 1 ∨ q = 2 ∨ q = 3 ∨ q = 4 ∨ q = 5 ∨ q = 6 ∨ q = 7 by omega) with h | h | h | h | h | h | h | h
  ·subst h
   refine kO ?_
   refine jr<|jF jj jj<|jl jj jj jj<|jS (bRe jj jj e4)<|jn<|jb<|js<|js<|jr<|jS (bEt jj jj)<|ja jj<|jn<|jt jj<|jp<|jt jj<|jr<|jm jj<|jm jj<|jT (aZT (fun _ => 11) CGN ⟨⟨jj, Option.some_ne_none _⟩, jj, trivial⟩ tA jj jj jj)<|ja jj<|jn ?_
   refine ⟨(), ?_⟩
   exact Sub.mk sJ sJ
  ·subst h
   refine kO ?_
   refine jr<|jF jj jj<|jl jj jj jj<|jS (bRe jj jj e4)<|jn<|jb<|js<|js<|jr<|jS (bEf jj jj)<|ja jj<|jn<|jf jj<|js<|jr<|jS (bEt jj jj)<|ja jj<|jn<|jt jj<|jp<|jt jj<|jr<|jm jj<|jm jj<|jT (aZT (fun _ => 11) CGN ⟨⟨jj, Option.some_ne_none _⟩, jj, trivial⟩ tA jj jj jj)<|ja jj<|jn ?_
   refine ⟨(), ?_⟩
   exact Sub.mk sJ sJ
  ·subst h
   refine kO ?_
   refine jr<|jF jj jj<|jl jj jj jj<|jS (bRe jj jj e4)<|jn<|jb<|js<|js<|jr<|jS (bEf jj jj)<|ja jj<|jn<|jf jj<|js<|jr<|jS (bEf jj jj)<|ja jj<|jn<|jf jj<|js<|jr<|jS (bEt jj jj)<|ja jj<|jn<|jt jj<|jp<|jt jj<|jr<|jm jj<|jm jj<|jT (aZT (fun _ => 11) CGN ⟨⟨jj, Option.some_ne_none _⟩, jj, trivial⟩ tA jj jj jj)<|ja jj<|jn ?_
   refine ⟨(), ?_⟩
   exact Sub.mk sJ sJ
  ·subst h
   refine kO ?_
   refine jr<|jF jj jj<|jl jj jj jj<|jS (bRe jj jj e4)<|jn<|jb<|js<|js<|jr<|jS (bEf jj jj)<|ja jj<|jn<|jf jj<|js<|jr<|jS (bEf jj jj)<|ja jj<|jn<|jf jj<|js<|jr<|jS (bEf jj jj)<|ja jj<|jn<|jf jj<|jr<|jS (bEt jj jj)<|ja jj<|jn<|jt jj<|jr<|jm jj<|jm jj<|jT (aZT (fun _ => 11) CGN ⟨⟨jj, Option.some_ne_none _⟩, jj, trivial⟩ tA jj jj jj)<|ja jj<|jn ?_
   refine ⟨(), ?_⟩
   exact Sub.mk sJ sJ
  ·subst h
   have hc : chM n false 0 0 = 2 := if_pos rfl
   have hb := hZc f N 0 (show 1 ≤ 3 by omega)
   have e5 : IntKind.i64.wrap (chM n false 0 0 + ((bl f N 0 3 : Nat) : Int)) = 2 + ((bl f N 0 3 : Nat) : Int) := by rw [hc, w64 oM oM]
   have h0 : 0 < n := oM
   have he : aZy (chM n false) n n 0 = outL (fun c => ex (.int .i64 (chM n false 0 c))) n := aZl h0
   refine kO ?_
   refine jr<|jF jj jj<|jl jj jj jj<|jS (bRe jj jj e4)<|jn<|jb<|js<|js<|jr<|jS (bEf jj jj)<|ja jj<|jn<|jf jj<|js<|jr<|jS (bEf jj jj)<|ja jj<|jn<|jf jj<|js<|jr<|jS (bEf jj jj)<|ja jj<|jn<|jf jj<|jr<|jS (bEf jj jj)<|ja jj<|jn<|jf jj<|js<|jr<|jS (bEt jj jj)<|ja jj<|jn<|jt jj<|js<|jr<|jm jj<|RG.SW (LT.plain jj (cZ1 400 200 CF tB (by intro i hi; omega) jj)) jj<|ja jj<|jn ?_
   refine jr<|jm jj<|jS (aZd (i := 0) jj jj aO) ?_
   refine jS (aZt jj jj aO jj aG)<|jS (aZd (i := 0) jj jj aO)<|jS (aZ8 (r := 0) (c := 0) jj fFm oM he h0) ?_
   refine jm jj<|jT (aZT (fun _ => 11) CB3 ⟨⟨jj, Option.some_ne_none _⟩, jj, trivial⟩ tA jj jj jj)<|jS (bAd jj jj e5)<|jS (aZd (i := 0) jj jj aO)<|RG.NW (LT.plain jj (bZO (r := 0) (c := 0) jj jj fFm oM he h0)) jj ?_
   refine jn ?_
   refine ⟨(), Sub.pubX 400 200 (fun a c => [ex (.int .i64 (upm (chM n false) 0 0 (2 + ((bl f N 0 3 : Nat) : Int)) a c))]) (π := fun i => i) rfl fFm rfl oM (fun r hr => (congrFun (dZk h0) r).trans (aZl hr)) (fun _ _ _ _ => rfl) ⟨.inl ⟨⟨_, rfl, SLe.rfl' _⟩, js0 rfl⟩, .inl ⟨pK, trivial⟩, .inr ⟨rfl, rfl⟩, trivial⟩ ⟨.inl pQ, trivial⟩ rfl⟩
  ·subst h
   have hc : chM n true (n - 1) (n - 1) = 2 := if_pos rfl
   have hb := hZc f N 0 (show 1 ≤ 2 by omega)
   have e5 : IntKind.i64.wrap (chM n true (n - 1) (n - 1) + ((bl f N 0 2 : Nat) : Int)) = 2 + ((bl f N 0 2 : Nat) : Int) := by rw [hc, w64 oM oM]
   have e6 : IntKind.i64.wrap ((n : Int) - 1) = ((n - 1 : Nat) : Int) := by rw [w64 oM oM]; omega
   have h0 : n - 1 < n := oM
   have he : aZy (chM n true) n n (n - 1) = outL (fun c => ex (.int .i64 (chM n true (n - 1) c))) n := aZl h0
   refine kO ?_
   refine jr<|jF jj jj<|jl jj jj jj<|jS (bRe jj jj e4)<|jn<|jb<|js<|js<|jr<|jS (bEf jj jj)<|ja jj<|jn<|jf jj<|js<|jr<|jS (bEf jj jj)<|ja jj<|jn<|jf jj<|js<|jr<|jS (bEf jj jj)<|ja jj<|jn<|jf jj<|jr<|jS (bEf jj jj)<|ja jj<|jn<|jf jj<|js<|jr<|jS (bEf jj jj)<|ja jj<|jn<|jf jj<|js<|jr<|jS (bEt jj jj)<|ja jj<|jn ?_
   refine jt jj<|js<|jr<|jm jj<|RG.SW (LT.plain jj (cZ1 400 200 CT tB (by intro i hi; omega) jj)) jj<|ja jj<|jn<|jr<|jm jj<|jm jj<|jS (bSu jj jj e6)<|jS (aZd jj jj aO) ?_
   refine jS (aZt jj jj aO jj aG)<|jm jj<|jS (bSu jj jj e6)<|jS (aZd jj jj aO)<|jS (aZ8 (r := n - 1) (c := n - 1) jj fFm oM he h0) ?_
   refine jm jj<|jT (aZT (fun _ => 11) CB2 ⟨⟨jj, Option.some_ne_none _⟩, jj, trivial⟩ tA jj jj jj)<|jS (bAd jj jj e5)<|jS (aZd jj jj aO)<|RG.NW (LT.plain jj (bZO (r := n - 1) (c := n - 1) jj jj fFm oM he h0)) jj ?_
   refine jn ?_
   refine ⟨(), Sub.pubX 400 200 (fun a c => [ex (.int .i64 (upm (chM n true) (n - 1) (n - 1) (2 + ((bl f N 0 2 : Nat) : Int)) a c))]) (π := fun i => i) rfl fFm rfl oM (fun r hr => (congrFun (dZk h0) r).trans (aZl hr)) (fun _ _ _ _ => rfl) ⟨.inl ⟨⟨_, rfl, SLe.rfl' _⟩, js0 rfl⟩, .inl ⟨pK, trivial⟩, .inr ⟨rfl, rfl⟩, trivial⟩ ⟨.inl pQ, trivial⟩ rfl⟩
  ·subst h
   refine kO ?_
   refine jr<|jF jj jj<|jl jj jj jj<|jS (bRe jj jj e4)<|jn<|jb<|js<|js<|jr<|jS (bEf jj jj)<|ja jj<|jn<|jf jj<|js<|jr<|jS (bEf jj jj)<|ja jj<|jn<|jf jj<|js<|jr<|jS (bEf jj jj)<|ja jj<|jn<|jf jj<|jr<|jS (bEf jj jj)<|ja jj<|jn<|jf jj<|js<|jr<|jS (bEf jj jj)<|ja jj<|jn<|jf jj<|js<|jr<|jS (bEf jj jj)<|ja jj<|jn ?_
   refine jf jj<|js<|jr<|jS (bEt jj jj)<|ja jj<|jn<|jt jj<|jr<|jm jj<|jm jj<|jT (aZT (fun _ => 11) CD9 ⟨⟨jj, Option.some_ne_none _⟩, jj, jj, trivial⟩ tA jj jj jj)<|ja jj<|jn ?_
   refine ⟨(), ?_⟩
   exact Sub.mk sJ sJ
  ·subst h
   refine kO ?_
   refine jr<|jF jj jj<|jl jj jj jj<|jS (bRe jj jj e4)<|jn<|jb<|js<|js<|jr<|jS (bEf jj jj)<|ja jj<|jn<|jf jj<|js<|jr<|jS (bEf jj jj)<|ja jj<|jn<|jf jj<|js<|jr<|jS (bEf jj jj)<|ja jj<|jn<|jf jj<|jr<|jS (bEf jj jj)<|ja jj<|jn<|jf jj<|js<|jr<|jS (bEf jj jj)<|ja jj<|jn<|jf jj<|js<|jr<|jS (bEf jj jj)<|ja jj<|jn ?_
   refine jf jj<|js<|jr<|jS (bEf jj jj)<|ja jj<|jn<|jf jj<|jr<|jm jj<|jm jj<|jT (aZT (fun _ => 11) CD1 ⟨⟨jj, Option.some_ne_none _⟩, jj, jj, trivial⟩ tA jj jj jj)<|ja jj<|jn ?_
   refine ⟨(), ?_⟩
   exact Sub.mk sJ sJ
 rintro ⟨⟩
 by_cases hg : kZX (cand f N n q).1 n = true
 ·rw [if_pos hg]
  rw [hg] at CG
  refine kO ?_
  refine jr<|jm jj<|jS (aZa CG tA)<|jS (bNo jj)<|jn<|jf jj<|jp<|js<|jr<|jm jj<|ja jj<|jn<|ji ?_
  exact rtT rfl jj
 ·rw [if_neg hg]
  rw [Bool.not_eq_true] at hg
  rw [hg] at CG
  refine kO ?_
  refine jr<|jm jj<|jS (aZa CG tA)<|jS (bNo jj)<|jn<|jt jj<|js<|jr<|jm jj<|jm jj<|jT (aZT (fun _ => 11) C2 ⟨⟨jj, Option.some_ne_none _⟩, jj, jj, trivial⟩ tA jj jj jj)<|ja jj<|jn<|ji ?_
  exact rtT rfl jj
end
end
section
open Go.RowKit Limb Det
def symM (G : Nat → Nat → Int) (n : Nat) : Nat → Nat → Int := fun r c => if r < n ∧ c < n then G r c else 0
theorem gZ0 {G : Nat → Nat → Int} {n r c : Nat} (hr : r < n) (hc : c < n) : symM G n r c = G r c := if_pos ⟨hr, hc⟩
theorem kZm {G : Nat → Nat → Int} {n k : Nat} (hk : k ≤ n) : det k (symM G n) = det k G := aZJ fun r c hr hc => gZ0 oM oM
def oZO (f : Nat → Int) (N n q : Nat) : Nat → Nat → Int := redH (symM (iZM f N n q) n) n
structure Fm (n : Nat) (H : Nat → Nat → Int) : Prop where
 n1 : 1 ≤ n
 n7 : n ≤ 7
 sy : Sym H
 po : Pos n H
 dn : det n H ≤ 10000
 en : ∀ i j, i < n → j < n → -2147483648 ≤ H i j ∧ H i j ≤ 2147483648
theorem Gm.symm {G : Nat → Nat → Int} {n : Nat} (h : Gm G n) : Sym (symM G n) ∧ Pos n (symM G n) ∧ (∀ r, r < n → symM G n r r ≤ 15) ∧ det n (symM G n) ≤ 10000 ∧ ZL (symM G n) n n 2 := by
 refine ⟨fun r c => ?_, fun k hk => ?_, fun r hr => ?_, ?_, fun i j hi hj => ?_⟩
 ·unfold symM
  by_cases e : r < n ∧ c < n
  ·rw [if_pos e, if_pos ⟨e.2, e.1⟩, h.sb.sy r c e.1 e.2]
  ·rw [if_neg e, if_neg fun g => e ⟨g.2, g.1⟩]
 ·rw [kZm hk]
  cases k with
  | zero => show (0 : Int) < 1; omega
  | succ k => exact h.pos k oM
 ·rw [gZ0 hr hr]; exact h.sb.hi r r hr hr
 ·rw [kZm (Nat.le_refl n)]; exact h.top
 ·rw [gZ0 hi hj]; exact h.sb.zl i j hi hj
theorem fm_form (f : Nat → Int) (N n q : Nat) (h1 : 1 ≤ n) (h7 : n ≤ 7) : Fm n (oZO f N n q) := by
 obtain ⟨a, b, c, d, _⟩ := (Gm.gram f N n q h1 h7).symm
 have h := eZr (Rv.start h7 a b c)
 exact ⟨h1, h7, h.sy, h.po, by show det n (cZd _ _ _ _).1 ≤ _; rw [h.dn]; exact d, h.en⟩
instance cbody17 : CBody Tryz.prog 17 := ⟨⟨_, Tryz.func17, rfl, by rfl⟩⟩
instance cbody5 : CBody Tryz.prog 5 := ⟨⟨_, Tryz.func5, rfl, by rfl⟩⟩
section
variable (En : Ev)
theorem mform (dim kind : Nat) (f : Nat → Int) (N : Nat) (f' : Nat → Int) (N' : Nat) (hT : Tp f N) (hd : dim < 256) : Fn Tryz.prog En 5 [latP dim kind f N f' N', ex (.int .i64 7)] (imt (oZO f N (1 + dim % 7) (kind % 8)) (1 + dim % 7) (1 + dim % 7)) := by
 have C1 := mgram En dim kind f N f' N' hT hd
 have hn7 : 1 + dim % 7 ≤ 7 := oM
 have hn1 : 1 ≤ 1 + dim % 7 := oM
 unfold oZO
 generalize 1 + dim % 7 = n at *
 generalize kind % 8 = q at *
 have hG := Gm.gram f N n q hn1 hn7
 obtain ⟨a, b, c, d, e⟩ := hG.symm
 have C2 := mof En (iZM f N n q) n n hn1 oM hn1 oM hG.sb.i64
 rw [dZM (B := symM (iZM f N n q) n) fun i j hi hj => (gZ0 hi hj).symm] at C2
 have C3 := mreduce En _ n hn1 hn7 a b c d e
 refine aZb Tryz.func5 rfl Tryz.ntmps5 rfl ?_
 intro w0 h0
 refine js<|jr<|jB jj jj jj<|ja jj<|jn<|js<|jr<|jL jj jj jj<|jm jj<|jS (aZa C1 ⟨jj, jj, trivial⟩)<|jS (aZa C2 ⟨jj, trivial⟩)<|jS (aZa C3 ⟨jj, trivial⟩)<|jm jj<|jx' jj jj<|jx' jj jj<|jx' jj jj<|ja jj<|ja jj<|ja jj<|jn<|js<|jr<|jm jj<|ja jj<|jn<|ji ?_
 exact rtT rfl jj
end
end
end Go.Proofs.YtfmjdlogjmofbaaGreatDoor

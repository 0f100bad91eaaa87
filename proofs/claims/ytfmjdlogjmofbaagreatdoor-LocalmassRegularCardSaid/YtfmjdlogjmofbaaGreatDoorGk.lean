/- The nearest integer; one change that LLL asks for. -/
import Derived.Test.YtfmjdlogjmofbaaGreatDoorMem
import Derived.Test.YtfmjdlogjmofbaaGreatDoorGj
import Derived.Test.YtfmjdlogjmofbaaGreatDoorW
set_option maxRecDepth 3000
namespace Go.Proofs.YtfmjdlogjmofbaaGreatDoor
open Go.RowKit Limb Det
def nrs (a b : Int) : Rat := Rat.divInt a b + Rat.divInt 1 2
def nrZ (a b : Int) : Int := (nrs a b).num / ((nrs a b).den : Int)
def rqI (a b : Int) : RQ := ⟨decide (a < 0), digs a.natAbs, decide (b < 0), digs b.natAbs⟩
theorem rqI_v (a b : Int) : (rqI a b).v = Rat.divInt a b := by
 unfold RQ.v rqI
 simp only
 rw [zv_C, zv_C]
theorem pZW {a b : Int} (ha : zl a ≤ 100000000) (hb : zl b ≤ 100000000) : (rqI a b).okR := ⟨aZg _, aZg _, Nat.le_trans ha oM, Nat.le_trans hb oM⟩
theorem zl_ediv (a b : Int) : zl (a / b) ≤ zl a + 1 := by
 have h : (a / b).natAbs ≤ a.natAbs + 1 := by
  by_cases hb : b = 0
  ·subst hb; simp
  ·have h1 := Int.emod_add_mul_ediv a b
   have h2 := Int.emod_nonneg a hb
   have h3 : a % b < (b.natAbs : Int) := by
    rcases Int.lt_or_gt_of_ne hb with h | h
    ·rw [← Int.emod_neg]; have := Int.emod_lt_of_pos a (show 0 < -b by omega); omega
    ·have := Int.emod_lt_of_pos a h; omega
   by_cases hq : (a / b).natAbs ≤ a.natAbs + 1
   ·exact hq
   ·exfalso
    have h4 : (b * (a / b)).natAbs = b.natAbs * (a / b).natAbs := Int.natAbs_mul ..
    have h5 : b.natAbs * (a.natAbs + 2) ≤ b.natAbs * (a / b).natAbs := Nat.mul_le_mul_left _ oM
    have h6 : 1 ≤ b.natAbs := oM
    have h7 : b.natAbs * (a.natAbs + 2) = b.natAbs * a.natAbs + b.natAbs * 2 := Nat.mul_add ..
    have h8 : a.natAbs ≤ b.natAbs * a.natAbs := Nat.le_mul_of_pos_left _ h6
    omega
 have h2 : zl (a / b) ≤ zl ((a.natAbs : Int) + 1) := dZ8 oM
 have h3 := eZ8 (a.natAbs : Int) 1
 have h4 : zl (a.natAbs : Int) = zl a := by unfold zl; rw [Int.natAbs_natCast]
 have h5 : zl 1 ≤ 1 := aZw (by rw [aZv]; decide)
 by_cases h0 : a = 0
 ·subst h0
  have : zl ((0 : Int) / b) = 0 := by rw [Int.zero_ediv]; decide
  omega
 ·have h6 : 1 ≤ zl a := by
   unfold zl
   by_cases hh : (digs a.natAbs).length = 0
   ·have := aZV a.natAbs
    rw [hh, Nat.pow_zero] at this
    omega
   ·omega
  omega
section
variable (En : Ev)
theorem mZv (a b : Int) (ha : zl a ≤ 100000000) (hb : zl b ≤ 100000000) : Fn Tryz.prog En 113 [zC a, zC b] (qC (Rat.divInt a b)) := by
 have C1 := dZy En (rqI a b) (pZW ha hb)
 rw [rqI_v] at C1
 refine aZb Tryz.func113 rfl Tryz.ntmps113 rfl ?_
 intro w0 h0
 refine js<|jr<|jB jj jj jj<|jB jj jj jj<|jA jj jj jj<|jn<|js<|jr<|jL jj jj jj<|jL jj jj jj<|jS (aZj (ps := [(_, _), (_, _)]) ⟨jj, Part.c jj, jj, Part.c jj, trivial⟩ jj)<|jS (aZa C1 tA)<|jP jj jj jj jj<|jn<|ji ?_
 exact rtC rfl jj jj
theorem mfloor (r : Rat) (hr : Sz 134217728 r) : Fn Tryz.prog En 156 [qC r] (zC (r.num / (r.den : Int))) := by
 have C1 := dZy En (RQ.of r) (RQ.of_okR hr)
 rw [RQ.of_v] at C1
 have C2 := cquo En r.num (r.den : Int) (Nat.le_trans hr.1 oM) (Nat.le_trans hr.2 oM) (by have := r.den_pos; omega)
 refine aZb Tryz.func156 rfl Tryz.ntmps156 rfl ?_
 intro w0 h0
 refine js<|jr<|jB jj jj jj<|jA jj jj jj<|jn<|js<|jr<|jL jj jj jj<|jS (aZa C1 ⟨jj, trivial⟩)<|jA jj jj jj<|jP jj jj jj jj<|jn<|js<|jr<|jF jj jj<|jL jj jj jj<|jF jj jj<|jL jj jj jj<|jS (aZa C2 ⟨jj, jj, trivial⟩)<|jP jj jj jj jj<|jn<|ji ?_
 exact rtC rfl jj jj
theorem mhalf : Fn Tryz.prog En 158 [] (qP (rqI 1 2)) := by
 have C1 := cZ5 En 1 oM oM
 have C2 := cZ5 En 2 oM oM
 refine aZb Tryz.func158 rfl Tryz.ntmps158 rfl ?_
 intro w0 h0
 refine js<|jr<|jA jj jj jj<|jn<|js<|jr<|jS (aZa C1 tA)<|jS (aZa C2 tA)<|jS (aZj (ps := [(_, _), (_, _)]) ⟨jj, Part.c jj, jj, Part.c jj, trivial⟩ jj)<|jP jj jj jj jj<|jn<|ji ?_
 exact rtC rfl jj jj
theorem oZ7 (a b : Int) (ha : zl a ≤ 10000000) (hb : zl b ≤ 10000000) (h0 : b ≠ 0) : Fn Tryz.prog En 112 [qC (Rat.divInt a b)] (zC (nrZ a b)) := by
 have z1 : zl 1 ≤ 2 := bZa oM oM
 have z2 : zl 2 ≤ 2 := bZa oM oM
 have s1 : Sz 10000000 (Rat.divInt a b) := bZ0 h0 ha hb
 have s2 : Sz 2 (Rat.divInt 1 2) := bZ0 oM z1 z2
 have s3 : Sz 134217728 (nrs a b) := (iZr s1 s2).mono oM
 have C1 := mhalf En
 have C2 := qadd En (RQ.of (Rat.divInt a b)) (rqI 1 2) (RQ.of_okR (s1.mono oM)) (pZW oM oM)
 rw [RQ.of_v, rqI_v] at C2
 have C3 := mfloor En (nrs a b) s3
 refine aZb Tryz.func112 rfl Tryz.ntmps112 rfl ?_
 intro w0 h0
 refine js<|jr<|jB jj jj jj<|jA jj jj jj<|jn<|js<|jr<|jL jj jj jj<|jS (aZa C1 trivial)<|jS (aZa C2 ⟨jj, jj, trivial⟩)<|jS (aZa C3 ⟨jj, trivial⟩)<|jP jj jj jj jj<|jn<|ji ?_
 exact rtC rfl jj jj
end
inductive Sr where
 | none
 | red (i j : Nat)
 | swp (i : Nat)
def rowR (A : Nat → Nat → Int) (i : Nat) : Nat → Option Nat
 | 0 => Option.none
 | c + 1 => if szd A i c = true then rowR A i c else some c
def allR (A : Nat → Nat → Int) (n : Nat) : Nat → Sr
 | 0 => .none
 | c + 1 => match rowR A (n - (c + 1)) (n - (c + 1)) with
  | some j => .red (n - (c + 1)) j
  | Option.none => if 0 < n - (c + 1) ∧ lovB A (n - (c + 1)) = false then .swp (n - (c + 1)) else allR A n c
def redT (A : Nat → Nat → Int) (i j : Nat) : Nat → Nat → Int := upm idM j i (-(nrZ (lam A i j) (det (j + 1) A)))
def swpP (i k : Nat) : Nat := if k = i then i - 1 else if k = i - 1 then i else k
def swpT (i : Nat) : Nat → Nat → Int := fun r c => idM (swpP i r) c
def srP (n : Nat) (A : Nat → Nat → Int) : Sr → Pd
 | .none => tupP [ex (.slice Option.none 0 0), ex (.bool false)]
 | .red i j => tupP [zmt (redT A i j) n n, ex (.bool true)]
 | .swp i => tupP [zmt (swpT i) n n, ex (.bool true)]
theorem fZr {t : Bx} {d i n m : Nat} (hl : ∀ j, j < 8 → look t (d + j) ≠ Option.none) (hd : d + 8 ≤ 400) (hi : i ≤ 8) : ∀ p ∈ outL (zout d i m) n, nref t p := fun p hp => by
 obtain ⟨a, ha, rfl⟩ := cZh hp
 unfold zout
 by_cases h : a < i
 ·rw [if_pos h]; exact bZU (hl a oM) uG
 ·rw [if_neg h]; exact bZH
theorem PsLe.trans : ∀ {a b c : List Pd}, PsLe a b → PsLe b c → PsLe a c
 | [], _, [], _, _ => trivial
 | _ :: _, _, [], _, _ => trivial
 | _ :: _, _ :: _, _ :: _, ⟨h1, h2⟩, ⟨k1, k2⟩ => ⟨fun h v hv => k1 h v (h1 h v hv), PsLe.trans h2 k2⟩
 | [], _ :: _, _ :: _, h, _ => h.elim
 | _, [], _ :: _, _, h => h.elim
section
variable (En : Ev)
set_option maxHeartbeats 1000000 in
theorem mstep (A : Nat → Nat → Int) (n K : Nat) (hn : 1 ≤ n) (hn8 : n ≤ 8) (hK : K ≤ 100000) (hA : ZL A n n K) (hd : ∀ k, k < n → det (k + 1) A ≠ 0) : Fn Tryz.prog En 50 [zmt A n n] (srP n A (allR A n n)) := by
 have C1 := jZP En A n K hn hn8 oM hA
 have C2 := hZH En n hn hn8
 refine aZb Tryz.func50 rfl Tryz.ntmps50 rfl ?_
 intro w0 h0
 refine js<|jr<|ja jj<|ja jj<|jn<|js<|jr<|jm jj<|jS (aZa C1 tA)<|jm jj<|jx' jj jj<|jx' jj jj<|ja jj<|ja jj<|jn<|js<|jr<|jm jj<|jE jj<|RG.SW (LT.plain jj (lZL 400 200 C2 tA (by intro i hi; omega) jj)) jj<|jm jj<|jS (ru_extX jj)<|jS (oZg jj)<|ja jj<|ja jj<|jn<|js<|js<|jr<|jm jj<|jE jj<|jm jj<|jn<|jb ?_
 refine WpD.loop (α := {i : Nat // i ≤ n ∧ allR A n n = allR A n (n - i)}) (fun i => ⟨[(0, .one (zmt A n n)), (4, .one (zsl (fun k => det (k + 1) A) n)), (6, .own 400 0 n n), (22, .one (ex (.int .i64 (n : Int)))), (23, .one (ex (.int .i64 (i.1 : Int))))], (400, outL (fun j => ownP (200 + j) 0 n n) n) :: rws 200 (bZq idM n n)⟩) (fun i => n - i.1) ⟨0, Nat.zero_le _, rfl⟩ ?_ ?_
 ·dsimp only
  exact Sub.mk sJ ⟨.inl pQ, subBx.fam fFm (fun r _ => PsLe.of rfl) trivial⟩ (LKeep.all ⟨.inr (aZp (π := fun i => i) (Fam.live fFm) oM oM), lkAll.fam rfl trivial⟩)
 rintro ⟨i, hi, hR⟩
 dsimp only
 by_cases hin : i < n
 ·obtain ⟨c, hc⟩ : ∃ c, n - i = c + 1 := ⟨n - i - 1, oM⟩
  have hci : n - (c + 1) = i := oM
  rw [hc] at hR
  have hR : allR A n n = (match rowR A i i with | some j => .red i j | Option.none => if 0 < i ∧ lovB A i = false then .swp i else allR A n c) := by
   rw [hR, allR, hci]
  have e0 : IntKind.i64.wrap ((i : Int) - 1) = (i : Int) - 1 := w64 oM oM
  refine js<|jr<|jS (bLt jj jj)<|jn<|js<|jt jj<|jp<|js<|jb<|js<|jr<|jm jj<|ja jj<|jn<|js<|js<|jr<|jm jj<|jS (bSu jj jj e0)<|ja jj<|jn<|jb ?_
  refine WpD.loop (α := {j : Nat // j ≤ i ∧ rowR A i i = rowR A i j}) (fun j => ⟨[(0, .one (zmt A n n)), (4, .one (zsl (fun k => det (k + 1) A) n)), (6, .own 400 0 n n), (8, .one (ex (.int .i64 (i : Int)))), (9, .one (ex (.int .i64 ((j.1 : Int) - 1)))), (22, .one (ex (.int .i64 (n : Int)))), (23, .one (ex (.int .i64 (i : Int))))], (400, outL (fun j => ownP (200 + j) 0 n n) n) :: rws 200 (bZq idM n n)⟩) (fun j => j.1) ⟨i, Nat.le_refl _, rfl⟩ ?_ ?_
  ·dsimp only
   exact Sub.mk sJ ⟨.inl pQ, subBx.fam fFm (fun r _ => PsLe.of rfl) trivial⟩ (LKeep.all ⟨.inr (aZp (π := fun i => i) (Fam.live fFm) oM oM), lkAll.fam rfl trivial⟩)
  rintro ⟨j, hj, hJ⟩
  dsimp only
  cases j with
  | succ j =>
   have ej : (((j + 1 : Nat) : Int) - 1) = (j : Int) := oM
   rw [ej]
   have b1 : decide ((j : Int) ≥ 0) = true := decide_eq_true oM
   have S1 := msized En A n i j K hn8 hin oM oM hA
   cases hs : szd A i j with
   | true =>
    rw [hs] at S1
    have e1 : IntKind.i64.wrap ((j : Int) - 1) = (j : Int) - 1 := w64 oM oM
    refine js<|js<|jr<|jm jj<|jS (bVh jj jj b1)<|jn<|jt jj<|jp<|js<|jb<|js<|jr<|jm jj<|jm jj<|jm jj<|jm jj<|jS (aZa S1 tD)<|jS (bNo jj)<|jn<|jf jj<|jp<|jr<|jm jj<|jS (bSu jj jj e1)<|ja jj<|jn ?_
    refine ⟨⟨j, oM, by rw [hJ, rowR, if_pos hs]⟩, ?_, oD⟩
    dsimp only
    exact Sub.mk sJ ⟨.inl pQ, subBx.fam fFm (fun r _ => PsLe.of rfl) trivial⟩ (LKeep.all ⟨.inr (aZp (π := fun i => i) (Fam.live fFm) oM oM), lkAll.fam rfl trivial⟩)
   | false =>
    rw [hs] at S1
    have hjn : j < n := oM
    have z1 := lZh hn8 hA hin hjn
    have z2 : zl (det (j + 1) A) ≤ 9 * K + 82 := dZf oM fun a b ha hb => hA a b oM oM
    have L1 := iZA En A n i j K hn8 hin hjn oM hA
    have M1 := hZG En A n (j + 1) hn8 oM
    have Q1 := mZv En (lam A i j) (det (j + 1) A) oM oM
    have N1 := oZ7 En (lam A i j) (det (j + 1) A) oM oM (hd j hjn)
    have z3 : zl (nrZ (lam A i j) (det (j + 1) A)) ≤ 100000000 := by
     have s1 : Sz (9 * K + 82) (Rat.divInt (lam A i j) (det (j + 1) A)) := bZ0 (hd j hjn) z1 z2
     have s2 : Sz 2 (Rat.divInt 1 2) := bZ0 oM (bZa oM oM) (bZa oM oM)
     have s3 := iZr s1 s2
     exact Nat.le_trans (zl_ediv _ _) (Nat.le_trans (Nat.add_le_add_right s3.1 1) oM)
    have G1 := cneg En (nrZ (lam A i j) (det (j + 1) A)) oM
    have e2 := wS j oM
    have he : bZq idM n n j = rowL (fun c => aZL (idM j c)) n := aZ4 hjn
    have hRR : allR A n n = .red i j := by rw [hR, hJ, rowR, if_neg (by rw [hs]; simp)]
    rw [hRR]
    refine js<|js<|jr<|jm jj<|jS (bVh jj jj b1)<|jn<|jt jj<|jp<|js<|jb<|js<|jr<|jm jj<|jm jj<|jm jj<|jm jj<|jS (aZa S1 tD)<|jS (bNo jj)<|jn<|jt jj<|js<|jr<|jm jj<|jm jj<|jS (aZd jj jj aO) ?_
    refine jS (aZt jj jj aO jj aG)<|jm jj<|jm jj<|jm jj<|jm jj<|jS (aZa L1 tC)<|jm jj<|jm jj<|jS (bAd jj jj e2)<|jS (aZa M1 tB)<|jS (aZa Q1 tB)<|jS (aZa N1 tA)<|jS (aZa G1 tA)<|jS (aZd jj jj aO)<|RG.NW (LT.plain jj (eZp jj jj fFm aO aR aO (fun _ _ => jj))) jj ?_
    refine jn<|js ?_
    refine WpD.sub (τ := ⟨[(6, .one (zmt (redT A i j) n n))], []⟩) (Sub.pubX 400 200 (fun a c => aZL (redT A i j a c)) (π := fun i => i) rfl fFm rfl oM (fun r hr => (congrFun (cZG hjn) r).trans (aZ4 hr)) (fun _ _ _ _ => rfl) ⟨.inr ⟨rfl, rfl⟩, trivial⟩ trivial rfl) ?_
    refine kO ?_
    refine jr<|jm jj<|ja jj<|ja jj<|jn<|ji ?_
    exact ret2 rfl (.tmp rfl) (.tmp rfl) (PLe.refl _)
  | zero =>
   have b1 : decide ((((0 : Nat) : Int) - 1) ≥ 0) = false := decide_eq_false oM
   have hJ : rowR A i i = Option.none := hJ
   rw [hJ] at hR
   have hR : allR A n n = if 0 < i ∧ lovB A i = false then .swp i else allR A n c := hR
   by_cases hi0 : 0 < i
   ·have V1 := mlovasz En A n i K hn8 hin hi0 oM hA
    have b2 : decide ((i : Int) > 0) = true := decide_eq_true oM
    cases hl : lovB A i with
    | true =>
     rw [hl] at V1
     refine js<|js<|jr<|jm jj<|jS (bVh jj jj b1)<|jn<|jf jj<|je<|js<|jr<|jm jj<|jS (bVg jj jj b2)<|jm jj (jgm jj (jgm jj (jgm jj (jg (aZa V1 tC) (jg (bNo jj) (jq jj jj (jn (jf jj (jp (jr (jS (bAd jj jj wO) (jm jj (jn ?_)))))))))))))
     refine ⟨⟨i + 1, oM, by rw [hR, if_neg (by rw [hl]; simp)]; congr 1; omega⟩, ?_, oD⟩
     dsimp only
     exact Sub.mk sJ ⟨.inl pQ, subBx.fam fFm (fun r _ => PsLe.of rfl) trivial⟩ (LKeep.all ⟨.inr (aZp (π := fun i => i) (Fam.live fFm) oM oM), lkAll.fam rfl trivial⟩)
    | false =>
     rw [hl] at V1
     have e1 : IntKind.i64.wrap ((i : Int) - 1) = ((i - 1 : Nat) : Int) := by rw [w64 oM oM]; omega
     have hi1 : i - 1 < n := oM
     rw [hR, if_pos ⟨hi0, hl⟩]
     refine js<|js<|jr<|jm jj<|jS (bVh jj jj b1)<|jn<|jf jj<|je<|js<|jr<|jm jj<|jS (bVg jj jj b2)<|jm jj (jgm jj (jgm jj (jgm jj (jg (aZa V1 tC) (jg (bNo jj) (jq jj jj (jn (jt jj (js (jr (jm jj (jm jj (jm jj (jm jj (jS (bSu jj jj e1) (jm jj (jm jj (jS (bSu jj jj e1) (jS (aZd jj jj aO) ?_)))))))))))))))))))
     refine jS (aZt jj jj aO jj aG)<|jm jj<|jm jj<|jS (aZd jj jj aO) ?_
     refine jS (aZt jj jj aO jj aG)<|jS (aZd jj jj aO)<|jO (bZw jj jj jj aO aG)<|jS (aZd jj jj aO)<|jO (bZw jj jj jj aO aG)<|jn<|js ?_
     refine WpD.sub (τ := ⟨[(6, .one (zmt (swpT i) n n))], []⟩) (Sub.pubX 400 200 (fun a c => aZL (swpT i a c)) (π := swpP i) (congrArg some (aZu fun k _ => ?_)) fFm rfl (fun k hk => ?_) (fun r hr => aZ4 ?_) (fun _ _ _ _ => rfl) ⟨.inr ⟨rfl, rfl⟩, trivial⟩ trivial rfl) ?_
     ·unfold swpP
      by_cases h1 : k = i - 1
      ·rw [if_pos h1, if_neg oM, if_pos h1]
      ·rw [if_neg h1]
       by_cases h2 : k = i
       ·rw [if_pos h2, if_pos h2]
       ·rw [if_neg h2, if_neg h2, if_neg h1]
     ·unfold swpP; split <;> (try split) <;> omega
     ·unfold swpP; split <;> (try split) <;> omega
     refine kO ?_
     refine jr<|jm jj<|ja jj<|ja jj<|jn<|ji ?_
     exact ret2 rfl (.tmp rfl) (.tmp rfl) (PLe.refl _)
   ·have b2 : decide ((i : Int) > 0) = false := decide_eq_false oM
    refine js<|js<|jr<|jm jj<|jS (bVh jj jj b1)<|jn<|jf jj<|je<|js<|jr<|jm jj<|jS (bVg jj jj b2)<|jm jj<|jk<|jk<|jk<|jk<|jk<|jQ jj jj<|jn<|jf jj<|jp<|jr<|jS (bAd jj jj wO)<|jm jj<|jn ?_
    refine ⟨⟨i + 1, oM, by rw [hR, if_neg oM]; congr 1; omega⟩, ?_, oD⟩
    dsimp only
    exact Sub.mk sJ ⟨.inl pQ, subBx.fam fFm (fun r _ => PsLe.of rfl) trivial⟩ (LKeep.all ⟨.inr (aZp (π := fun i => i) (Fam.live fFm) oM oM), lkAll.fam rfl trivial⟩)
 ·have e : n - i = 0 := oM
  rw [e] at hR
  rw [hR]
  refine js<|jr<|jS (bLf jj jj)<|jn<|js<|jf jj<|je<|js<|jr<|ja jj<|ja jj<|jn<|ji ?_
  exact ret2 rfl (.tmp rfl) (.tmp rfl) (PLe.refl _)
theorem qZd (x : Int) (h : I64 x) : Fn Tryz.prog En 20 [zC x] (tupP [ex (.int .i64 x), ex (.bool true)]) := by
 obtain ⟨h1, h2⟩ := h
 have hz : zl x ≤ 2 := bZa oM oM
 by_cases h3 : x = -9223372036854775808
 ·subst h3
  have C1 := fZI En (digs (9223372036854775808 : Nat)) (Nat.le_trans hz oM)
  have hlen : (digs 9223372036854775808).length ≤ 2 := hz
  have C2 := flow En (digs (9223372036854775808 : Nat)) hlen
  rw [aZi] at C1 C2
  have b1 : decide (((digs 9223372036854775808).length : Int) > 2) = false := decide_eq_false oM
  have b2 : decide (((9223372036854775808 : Nat) : Int) ≤ 9223372036854775808) = true := by decide
  have e2 : IntKind.i64.wrap (IntKind.u64.wrap (-((9223372036854775808 : Nat) : Int))) = -9223372036854775808 := by rw [IntKind.wrap_u64, IntKind.wrap_i64]; omega
  have ez : zC (-9223372036854775808) = zR true (digs 9223372036854775808) := by
   show zR (decide ((-9223372036854775808 : Int) < 0)) (digs (-9223372036854775808 : Int).natAbs) = _
   rw [decide_eq_true oM, show (-9223372036854775808 : Int).natAbs = 9223372036854775808 by omega]
  rw [ez]
  refine aZb Tryz.func20 rfl Tryz.ntmps20 rfl ?_
  intro w0 h0
  refine kO ?_
  refine jr<|jB jj jj jj<|ja jj<|ja jj<|jn ?_
  refine kO ?_
  refine jr<|jF jj jj<|jl jj jj jj<|jS (aZa C1 tA)<|ja jj<|jn ?_
  refine kO ?_
  refine jr<|jm jj<|jS (aZa C2 tA)<|ja jj<|jn ?_
  refine kO ?_
  refine jr<|jm jj<|jE jj<|jS (bVg jj jj b1)<|ja jj<|jn ?_
  refine kO ?_
  refine WpD.condF rfl ?_
  refine kO ?_
  refine jr<|jF jj jj<|jl jj jj jj<|jm jj ?_
  first | refine jgm jj ?_ | refine jk ?_
  first | refine jg (bVe jj jj b2) ?_ | refine jk ?_
  first | refine jq jj jj ?_ | refine jQ jj jj ?_
  refine ja jj<|jn ?_
  refine kO ?_
  refine WpD.condT rfl ?_
  refine kO ?_
  refine jr<|jm jj<|jS (oZj jj (fun w => cZ0 w _ _))<|jS (bCv jj e2)<|ja jj<|ja jj<|jn ?_
  refine kO ?_
  refine WpD.ret ?_
  exact ret2 rfl (.tmp rfl) (.tmp rfl) (PLe.refl _)
 ·have := xint64 En (decide (x < 0)) (digs x.natAbs) (Nat.le_trans hz oM) (by rw [aZi]; omega)
  rwa [zv_C] at this
set_option maxHeartbeats 1000000 in
theorem mtoInts (A : Nat → Nat → Int) (n m : Nat) (hn : 1 ≤ n) (hn8 : n ≤ 8) (hm : 1 ≤ m) (hm8 : m ≤ 8) (hA : ∀ i j, i < n → j < m → I64 (A i j)) : Fn Tryz.prog En 51 [zmt A n m] (tupP [imt A n m, ex (.bool true)]) := by
 have CS := jZO En A n m hn hn8 hm hm8
 refine aZb Tryz.func51 rfl Tryz.ntmps51 rfl ?_
 intro w0 h0
 refine js<|jr<|ja jj<|ja jj<|jn<|js<|jr<|jm jj<|jS (aZa CS ⟨jj, trivial⟩)<|jm jj<|jx' jj jj<|jx' jj jj<|jx' jj jj<|ja jj<|ja jj<|ja jj<|jn<|js<|js<|jr<|jm jj<|jS (bNo jj)<|jn<|jf jj<|jp<|js<|jr<|jm jj<|jT (bZ7 jj jj jj jj oM jj jj)<|ja jj<|jn<|js<|js<|jr<|jm jj<|jS (aZE jj CSlice.ok)<|jm jj<|jn<|jb ?_
 refine WpD.loop (α := {i : Nat // i ≤ n}) (fun i => ⟨[(0, .one (zmt A n m)), (5, .one (ex (.int .i64 (m : Int)))), (7, .own 400 0 n n), (23, .one (ex (.int .i64 (n : Int)))), (24, .one (ex (.int .i64 (i.1 : Int))))], (400, outL (zout 200 i.1 m) n) :: rws 200 (aZy A i.1 m)⟩) (fun i => n - i.1) ⟨0, Nat.zero_le _⟩ ?_ ?_
 ·dsimp only
  refine Sub.mv 400 21 oM oM oM ⟨pK, pK, ⟨_, rfl, aZF _ _, rfl, rfl, rfl, js0 rfl⟩, pK, pK, trivial⟩ ⟨BMv.to rfl rfl uG oM oM (congrArg some (bZ9 [ex (.slice Option.none 0 0)] n)) (fun i _ => ⟨PLe.refl _, by unfold zout; rw [if_neg oM]; exact inferInstance⟩), mvBx.fam (fun j _ => .inl (aZo oM)) trivial⟩
 rintro ⟨i, hi⟩
 dsimp only
 by_cases hin : i < n
 ·refine js<|jr<|jS (bLt jj jj)<|jn<|js<|jt jj<|jp<|js<|jb<|js<|jr<|jm jj<|ja jj<|jn<|js<|jr<|jm jj<|jm jj<|jm jj<|jT (bZ7 jj jj jj jj oM jj jj)<|jS (aZd jj jj aO)<|jO (bZw jj jj jj aO aG)<|jn<|js ?_
  refine WpD.sub (τ := ⟨[(0, .one (zmt A n m)), (5, .one (ex (.int .i64 (m : Int)))), (7, .own 400 0 n n), (8, .one (ex (.int .i64 (i : Int)))), (23, .one (ex (.int .i64 (n : Int)))), (24, .one (ex (.int .i64 (i : Int))))], (400, outL (zout 200 (i + 1) m) n) :: rws 200 (aZy (fun r c => if r < i ∨ r = i ∧ c < 0 then A r c else 0) (i + 1) m)⟩) ?_ ?_
  ·refine Sub.mv (200 + i) 30 oM oM oM ⟨pK, pK, ⟨_, rfl, aZ7 oM oM, rfl, rfl, rfl, js0 rfl⟩, pK, pK, pK, trivial⟩ ⟨BMv.out rfl oM oM uG rfl (cZB oM oM oM hn8 (Fam.live fFm)), mvBx.famA fFm oM oM oM oM (fun j _ hj => PsLe.of ?_) rfl ?_ trivial⟩ rfl ?_
   ·by_cases h : j < i
    ·rw [aZl h, aZl oM]
     exact aZu fun c _ => by dsimp only; rw [if_pos (.inl h)]
    ·rw [aZo h, aZo oM]
   ·rw [aZl oM]
    refine (show PsLe _ (iRow (fun _ => 0) m) from mZM m).trans (PsLe.of (aZu fun c _ => ?_))
    dsimp only; rw [if_neg oM]
   ·dsimp only
    rw [aZc, if_neg oM, cZu, if_neg oM]; rfl
  have hgi : zout 200 (i + 1) m i = ownP (200 + i) 0 m m := if_pos oM
  refine kO ?_
  refine jr<|jm jj<|jm jj<|jS (aZd jj jj aO) ?_
  refine jS (aZt jj jj hin hgi uG)<|jS (aZE jj CSlice.ok)<|jm jj<|jn<|jb ?_
  refine WpD.loop (α := {j : Nat // j ≤ m}) (fun j => ⟨[(0, .one (zmt A n m)), (5, .one (ex (.int .i64 (m : Int)))), (7, .own 400 0 n n), (8, .one (ex (.int .i64 (i : Int)))), (23, .one (ex (.int .i64 (n : Int)))), (24, .one (ex (.int .i64 (i : Int)))), (36, .one (ex (.int .i64 (m : Int)))), (37, .one (ex (.int .i64 (j.1 : Int))))], (400, outL (zout 200 (i + 1) m) n) :: rws 200 (aZy (fun r c => if r < i ∨ r = i ∧ c < j.1 then A r c else 0) (i + 1) m)⟩) (fun j => m - j.1) ⟨0, Nat.zero_le _⟩ ?_ ?_
  ·dsimp only
   exact Sub.mk sJ ⟨.inl pQ, subBx.fam fFm (fun r _ => PsLe.refl _) trivial⟩ (LKeep.all ⟨.inr (fZr (Fam.live fFm) oM oM), lkAll.fam rfl trivial⟩)
  rintro ⟨j, hj⟩
  dsimp only
  by_cases hjm : j < m
  ·have C1 := qZd En (A i j) (hA i j hin hjm)
   have he : aZy (fun r c => if r < i ∨ r = i ∧ c < j then A r c else 0) (i + 1) m i = outL (fun c => ex (.int .i64 (if i < i ∨ i = i ∧ c < j then A i c else 0))) m := aZl oM
   have hi1 : i < i + 1 := oM
   refine js<|jr<|jS (bLt jj jj)<|jn<|js<|jt jj<|jp<|js<|jb<|js<|jr<|jm jj<|ja jj<|jn<|js<|jr<|jm jj<|jm jj<|jS (bZb jj jj aO)<|jS (aZh jj jj)<|jm jj<|jS (bZm jj jj aO (fun _ _ => jj))<|jS (aZq jj jj jj)<|jS (aZa C1 ⟨jj, trivial⟩)<|jm jj<|jx' jj jj<|jx' jj jj<|ja jj<|ja jj<|jn<|js<|js<|jr<|jm jj<|jS (bNo jj)<|jn<|jf jj<|jp<|jr<|jm jj<|jm jj<|jS (aZd jj jj aO) ?_
   refine jS (aZt jj jj hin hgi uG)<|jm jj<|jm jj<|jS (aZd jj jj aO)<|RG.NW (LT.plain jj (bZO jj jj fFm aO aR aO)) jj ?_
   refine jn<|jr<|jS (bAd jj jj wO)<|jm jj<|jn ?_
   refine ⟨⟨j + 1, oM⟩, ?_, oD⟩
   dsimp only
   refine Sub.mk ?_ ⟨.inl pQ, subBx.fam fFm (fun r _ => PsLe.of (congrFun ((dZk hi1).trans (bZy fun a b _ _ => ?_)) r)) trivial⟩ (LKeep.all ⟨.inr (fZr (Fam.live fFm) oM oM), lkAll.fam rfl trivial⟩)
   ·repeat (first | exact trivial | refine jv rfl ?_ | refine jw rfl (js0 rfl) ?_)
   ·unfold upm
    by_cases h1 : a = i ∧ b = j
    ·obtain ⟨rfl, rfl⟩ := h1
     rw [if_pos ⟨rfl, rfl⟩, if_pos oM]
    ·rw [if_neg h1]
     dsimp only
     by_cases h3 : a < i ∨ a = i ∧ b < j
     ·rw [if_pos h3, if_pos oM]
     ·rw [if_neg h3, if_neg oM]
  ·have e : j = m := oM
   subst e
   refine js<|jr<|jS (bLf jj jj)<|jn<|js<|jf jj<|je<|jr<|jS (bAd jj jj wO)<|jm jj<|jn ?_
   refine ⟨⟨i + 1, oM⟩, ?_, oD⟩
   dsimp only
   refine Sub.mk ?_ ⟨.inl pQ, subBx.fam fFm (fun r _ => PsLe.of (congrFun (bZy fun a b _ _ => ?_) r)) trivial⟩ (LKeep.all ⟨.inr (fZr (Fam.live fFm) oM oM), lkAll.fam rfl trivial⟩)
   ·repeat (first | exact trivial | refine jv rfl ?_ | refine jw rfl (js0 rfl) ?_)
   ·rw [if_pos oM]
 ·have e : i = n := oM
  subst e
  refine js<|jr<|jS (bLf jj jj)<|jn<|js<|jf jj<|je<|js ?_
  refine WpD.sub (τ := ⟨[(7, .one (imt A i m))], []⟩) (Sub.pubX 400 200 (fun a c => [ex (.int .i64 (A a c))]) (π := fun i => i) (congrArg some (dZv ..)) fFm rfl oM (fun r hr => aZl hr) (fun _ _ _ _ => rfl) ⟨.inr ⟨rfl, rfl⟩, trivial⟩ trivial rfl) ?_
  refine kO ?_
  refine jr<|jm jj<|ja jj<|ja jj<|jn<|ji ?_
  exact ret2 rfl (.tmp rfl) (.tmp rfl) (PLe.refl _)
end
end Go.Proofs.YtfmjdlogjmofbaaGreatDoor

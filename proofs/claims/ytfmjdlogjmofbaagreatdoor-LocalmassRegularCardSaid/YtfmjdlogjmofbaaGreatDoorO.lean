/- Natural numbers of the program: a step of long division. -/
import Derived.Test.YtfmjdlogjmofbaaGreatDoorMem
import Derived.Test.YtfmjdlogjmofbaaGreatDoorN
import Derived.Test.YtfmjdlogjmofbaaGreatDoorL
import Derived.Test.YtfmjdlogjmofbaaGreatDoorW
set_option maxRecDepth 3000
namespace Go.Proofs.YtfmjdlogjmofbaaGreatDoor
section
open Go.RowKit Limb
theorem fZ2 {Lo M Hi : List Nat} {i x : Nat} (h : M[i]? = some x) : ((Lo ++ (M ++ Hi)).map lb)[Lo.length + i]? = some (lb x) := by
 refine getL ?_
 have hlt := (List.getElem?_eq_some_iff.1 h).1
 rw [List.getElem?_append_right oM, show Lo.length + i - Lo.length = i by omega, List.getElem?_append_left hlt]; exact h
theorem jZr (Lo N R Hi : List Nat) (y x : Nat) {i : Nat} (hi : N.length = i) : ((Lo ++ ((N ++ y :: R) ++ Hi)).map lb).set (Lo.length + i) (ex (.int .u32 (x : Int))) = (Lo ++ (((N ++ [x]) ++ R) ++ Hi)).map lb := by
 have := setL (Lo ++ N) (R ++ Hi) y x
 rw [List.length_append, hi] at this
 simp only [List.append_assoc, List.cons_append, List.nil_append] at this ⊢
 exact this
theorem jZV {Lo M Hi : List Nat} {i : Nat} (h : i < M.length) : Lo.length + i < ((Lo ++ (M ++ Hi)).map lb).length := by simp; omega
theorem iZc {x y : Nat} (hx : x < B) (hy : y ≤ B) : eZk x y % B = difD x y := by unfold eZk difD; rw [aZv] at *; split <;> omega
theorem iZb {x y : Nat} (hx : x < B) (hy : y ≤ B) : (eZk x y : Int).fdiv (2 ^ (min (63 : Int).toNat IntKind.u64.bits)) = ((difB x y : Nat) : Int) := by
 show (eZk x y : Int).fdiv (2 ^ 63) = _
 rw [Int.fdiv_eq_ediv_of_nonneg _ aD]
 unfold eZk difB
 rw [aZv] at *
 split <;> omega
theorem gZm {x a b : Nat} (hx : x < B) (ha : a < B) (hb : b ≤ 1) : IntKind.u64.wrap (IntKind.u64.wrap ((x : Int) - (a : Int)) - (b : Int)) = ((eZk x (a + b) : Nat) : Int) := by
 rw [IntKind.wrap_u64, IntKind.wrap_u64]; unfold eZk; rw [aZv] at *; split <;> omega
section
variable (En : Ev)
set_option maxHeartbeats 4000000 in
theorem nstep (Lo u Hi v : List Nat) (cap : Nat) (hlen : Lo.length + v.length ≤ 1099511627776) (hn : 2 ≤ v.length) (hul : u.length = v.length + 1) (hum : Lm u) (hvm : Lm v) (hnorm : ∀ t, v[v.length - 1]? = some t → B ≤ 2 * t) (hlt : val u < val v * B) :
  FnG Tryz.prog En 190 [.own 1000 Lo.length (v.length + 1) cap, .one (mag v)] [(1000, (Lo ++ (u ++ Hi)).map lb)] (.one (lb (val u / val v))) [(1000, (Lo ++ (pd (val u % val v) (v.length + 1) ++ Hi)).map lb)] := by
 obtain ⟨v1, hv1⟩ : ∃ x, v[v.length - 1]? = some x := ⟨_, List.getElem?_eq_getElem oM⟩
 obtain ⟨v2, hv2⟩ : ∃ x, v[v.length - 2]? = some x := ⟨_, List.getElem?_eq_getElem oM⟩
 obtain ⟨u0, hu0⟩ : ∃ x, u[v.length]? = some x := ⟨_, List.getElem?_eq_getElem oM⟩
 obtain ⟨u1, hu1⟩ : ∃ x, u[v.length - 1]? = some x := ⟨_, List.getElem?_eq_getElem oM⟩
 obtain ⟨u2, hu2⟩ : ∃ x, u[v.length - 2]? = some x := ⟨_, List.getElem?_eq_getElem oM⟩
 have K := kn_of hn rfl hul hvm hum hv1 hv2 hu0 hu1 hu2 (hnorm _ hv1) hlt
 have bv1 := hvm.get hv1
 have bv2 := hvm.get hv2
 have bu0 := hum.get hu0
 have bu1 := hum.get hu1
 have bu2 := hum.get hu2
 have hv1n := K.norm
 have hBd := aZv
 have hqz : (0 : Int) ≤ ((val u / val v : Nat) : Int) := Int.natCast_nonneg _
 have g0 := fZ2 (Lo := Lo) (Hi := Hi) hu0
 have g1 := fZ2 (Lo := Lo) (Hi := Hi) hu1
 have g2 := fZ2 (Lo := Lo) (Hi := Hi) hu2
 have i0 : v.length < v.length + 1 := oM
 have i1 : v.length - 1 < v.length + 1 := oM
 have i2 : v.length - 2 < v.length + 1 := oM
 have c64 : ∀ x : Nat, x < B → IntKind.u64.wrap (x : Int) = (x : Int) := fun x hx => wu64 oM oM
 have s32 : ∀ x : Nat, x < B → IntKind.u64.wrap ((x : Int) * 2 ^ (min (32 : Int).toNat IntKind.u64.bits)) = ((x * B : Nat) : Int) := fun x hx => by
  show IntKind.u64.wrap ((x : Int) * 2 ^ 32) = _
  rw [aZv] at hx ⊢
  rw [wu64 oM oM]; omega
 have e1 : IntKind.i64.wrap ((v.length : Int) - 1) = ((v.length - 1 : Nat) : Int) := by rw [w64 oM oM]; omega
 have e2 : IntKind.i64.wrap ((v.length : Int) - 2) = ((v.length - 2 : Nat) : Int) := by rw [w64 oM oM]; omega
 have eH := gZH bu0 bu1
 obtain ⟨H, hH⟩ : ∃ H, u0 * B + u1 = H := ⟨_, rfl⟩
 obtain ⟨st1, st2⟩ := K.start
 rw [hH] at eH st1 st2
 have hHlt : H < B * B := by
  rw [← hH]
  have : (u0 + 1) * B ≤ B * B := Nat.mul_le_mul_right _ bu0
  rw [Nat.add_mul] at this
  omega
 have hBB : B * B = 18446744073709551616 := by decide
 have hH64 : H < 18446744073709551616 := by rw [← hBB]; exact hHlt
 have hv10 : (v1 : Int) ≠ 0 := oM
 have eq : IntKind.u64.wrap ((H : Int).tdiv (v1 : Int)) = ((H / v1 : Nat) : Int) := by
  rw [Int.tdiv_eq_ediv_of_nonneg (Int.natCast_nonneg _), ← Int.natCast_ediv]
  exact wu64 (Int.natCast_nonneg _) (Int.ofNat_lt.2 (Nat.lt_of_le_of_lt (Nat.div_le_self _ _) hH64))
 have er : (H : Int).tmod (v1 : Int) = ((H % v1 : Nat) : Int) := by
  rw [Int.tmod_eq_emod_of_nonneg (Int.natCast_nonneg _), ← Int.natCast_emod]
 refine aZr Tryz.func190 rfl Tryz.ntmps190 rfl ?_
 intro w0 h0 c
 refine kO ?_
 refine jr<|ja jj<|jn ?_
 refine kO ?_
 refine jr<|jm jj<|jE jj<|ja jj<|jn ?_
 refine kO ?_
 refine jr<|jm jj<|jm jj<|jS (bZi jj jj aO)<|jS (aZ9 jj jj aM)<|jS (bCv jj (c64 _ bu0))<|jS (aZf jj jj (fun w => cZg w _ _ _ _ _ _ _ aW) (vint (s32 _ bu0)))<|jm jj<|jm jj<|jS (bSu jj jj e1)<|jS (bZi jj jj aO)<|jS (aZ9 jj jj aM)<|jS (bCv jj (c64 _ bu1))<|jS (aZf jj jj (fun w => cZP w _ _ _ _ _ _) (vint eH))<|ja jj<|jn ?_
 refine kO ?_
 refine jr<|jm jj<|jm jj<|jm jj<|jS (bSu jj jj e1)<|jS (aZs jj jj aM)<|jS (aZh jj jj)<|jS (bCv jj (c64 _ bv1))<|jS (bQu jj jj eq)<|jm jj<|jm jj<|jm jj<|jS (bSu jj jj e1)<|jS (aZs jj jj aM)<|jS (aZh jj jj)<|jS (bCv jj (c64 _ bv1))<|jS (bRe jj jj er)<|ja jj<|ja jj<|jn ?_
 refine WpD.cut (α := {g : Nat // g < B ∧ val u / val v ≤ g ∧ g ≤ val u / val v + 1}) (fun g => ⟨[(0, .own 1000 Lo.length (v.length + 1) cap), (1, .one (mag v)), (5, .one (ex (.int .i64 (v.length : Int)))), (7, .one (ex (.int .u64 (g.1 : Int))))], [(1000, (Lo ++ (u ++ Hi)).map lb)]⟩) ?_ ?_
 ·refine WpD.block ?_
  refine WpD.loop (α := {p : Nat × Nat // p.1 * v1 + p.2 = H ∧ val u / val v ≤ p.1 ∧ p.1 ≤ B + 1 ∧ p.2 < B}) (fun p => ⟨[(0, .own 1000 Lo.length (v.length + 1) cap), (1, .one (mag v)), (5, .one (ex (.int .i64 (v.length : Int)))), (7, .one (ex (.int .u64 (p.1.1 : Int)))), (8, .one (ex (.int .u64 (p.1.2 : Int))))], [(1000, (Lo ++ (u ++ Hi)).map lb)]⟩) (fun p => B - p.1.2) ⟨(H / v1, H % v1), by rw [Nat.mul_comm]; exact Nat.div_add_mod _ _, st1, st2, Nat.lt_trans (Nat.mod_lt _ oM) bv1⟩ ?_ ?_
  ·
   exact Sub.mk sJ sJ
  rintro ⟨⟨g, r⟩, hg, hq, hgB, hr⟩
  simp only at hg hq hgB hr
  dsimp only
  refine WpD.cut (α := {_x : Unit // B ≤ g ∨ r * B + u2 < g * v2}) (fun _ => ⟨[(0, .own 1000 Lo.length (v.length + 1) cap), (1, .one (mag v)), (5, .one (ex (.int .i64 (v.length : Int)))), (7, .one (ex (.int .u64 (g : Int)))), (8, .one (ex (.int .u64 (r : Int))))], [(1000, (Lo ++ (u ++ Hi)).map lb)]⟩) ?_ ?_
  ·have gsh := gZ2 g
   by_cases hgb : B ≤ g
   ·have q1 : 1 ≤ g / B := by rw [Nat.le_div_iff_mul_le aZY]; omega
    have t1 : (((g / B : Nat) : Int) != 0) = true := by rw [bne_iff_ne]; omega
    refine kO ?_
    refine jr<|jm jj<|jS (aZf jj jj (fun w => aZH w _ _ _ _ _ _ _ aW) (vint gsh))<|jS (bVn jj jj t1)<|jm jj ?_
    first | refine jgm jj ?_ | refine jk ?_
    first | refine jgm jj ?_ | refine jk ?_
    first | refine jgm jj ?_ | refine jk ?_
    first | refine jg (aZ6 jj jj (fun w => cZy w _ _ _ _ _ _)) ?_ | refine jk ?_
    first | refine jg (aZs jj jj aM) ?_ | refine jk ?_
    first | refine jg (aZh jj jj) ?_ | refine jk ?_
    first | refine jg (iZ1 jj (fun w => fZh w CInt.ok CInt.ok _ _)) ?_ | refine jk ?_
    first | refine jg (aZ6 jj jj (fun w => jZt w _ _ _ _ _ _)) ?_ | refine jk ?_
    first | refine jgm jj ?_ | refine jk ?_
    first | refine jg (aZ6 jj jj (fun w => cZg w _ _ _ _ _ _ _ aW)) ?_ | refine jk ?_
    first | refine jgm jj ?_ | refine jk ?_
    first | refine jgm jj ?_ | refine jk ?_
    first | refine jg (aZ6 jj jj (fun w => cZy w _ _ _ _ _ _)) ?_ | refine jk ?_
    first | refine jg (bZi jj jj aO) ?_ | refine jk ?_
    first | refine jg (aZ9 jj jj aM) ?_ | refine jk ?_
    first | refine jg (iZ1 jj (fun w => fZh w CInt.ok CInt.ok _ _)) ?_ | refine jk ?_
    first | refine jg (aZ6 jj jj (fun w => cZP w _ _ _ _ _ _)) ?_ | refine jk ?_
    first | refine jg (aZ6 jj jj (fun w => dZB w _ _ _ _ _ _)) ?_ | refine jk ?_
    first | refine jq jj jj ?_ | refine jQ jj jj ?_
    refine jn ?_
    refine kO ?_
    refine WpD.condT rfl ?_
    refine kO ?_
    refine WpD.skip ?_
    refine ⟨⟨(), .inl hgb⟩, ?_⟩
    exact Sub.mk sJ sJ
   ·have q1 : g / B = 0 := Nat.div_eq_of_lt oM
    have t1 : (((g / B : Nat) : Int) != 0) = false := by rw [q1]; rfl
    have hgv : g * v2 ≤ 18446744065119617025 := (dZ6 aZY oM bv2 aZY).2
    have em : IntKind.u64.wrap ((g : Int) * (v2 : Int)) = ((g * v2 : Nat) : Int) := by rw [← Int.natCast_mul]; exact wu64 oM oM
    have eo := gZH hr bu2
    by_cases htest : r * B + u2 < g * v2
    ·have t2 : decide (((g * v2 : Nat) : Int) > ((r * B + u2 : Nat) : Int)) = true := decide_eq_true oM
     refine kO ?_
     refine jr<|jm jj<|jS (aZf jj jj (fun w => aZH w _ _ _ _ _ _ _ aW) (vint gsh))<|jS (bVn jj jj t1)<|jm jj ?_
     first | refine jgm jj ?_ | refine jk ?_
     first | refine jgm jj ?_ | refine jk ?_
     first | refine jgm jj ?_ | refine jk ?_
     first | refine jg (bSu jj jj e2) ?_ | refine jk ?_
     first | refine jg (aZs jj jj aM) ?_ | refine jk ?_
     first | refine jg (aZh jj jj) ?_ | refine jk ?_
     first | refine jg (bCv jj (c64 _ bv2)) ?_ | refine jk ?_
     first | refine jg (bMu jj jj em) ?_ | refine jk ?_
     first | refine jgm jj ?_ | refine jk ?_
     first | refine jg (aZf jj jj (fun w => cZg w _ _ _ _ _ _ _ aW) (vint (s32 _ hr))) ?_ | refine jk ?_
     first | refine jgm jj ?_ | refine jk ?_
     first | refine jgm jj ?_ | refine jk ?_
     first | refine jg (bSu jj jj e2) ?_ | refine jk ?_
     first | refine jg (bZi jj jj aO) ?_ | refine jk ?_
     first | refine jg (aZ9 jj jj aM) ?_ | refine jk ?_
     first | refine jg (bCv jj (c64 _ bu2)) ?_ | refine jk ?_
     first | refine jg (aZf jj jj (fun w => cZP w _ _ _ _ _ _) (vint eo)) ?_ | refine jk ?_
     first | refine jg (bVg jj jj t2) ?_ | refine jk ?_
     first | refine jq jj jj ?_ | refine jQ jj jj ?_
     refine jn ?_
     refine kO ?_
     refine WpD.condT rfl ?_
     refine kO ?_
     refine WpD.skip ?_
     refine ⟨⟨(), .inr htest⟩, ?_⟩
     exact Sub.mk sJ sJ
    ·have t2 : decide (((g * v2 : Nat) : Int) > ((r * B + u2 : Nat) : Int)) = false := decide_eq_false oM
     refine kO ?_
     refine jr<|jm jj<|jS (aZf jj jj (fun w => aZH w _ _ _ _ _ _ _ aW) (vint gsh))<|jS (bVn jj jj t1)<|jm jj ?_
     first | refine jgm jj ?_ | refine jk ?_
     first | refine jgm jj ?_ | refine jk ?_
     first | refine jgm jj ?_ | refine jk ?_
     first | refine jg (bSu jj jj e2) ?_ | refine jk ?_
     first | refine jg (aZs jj jj aM) ?_ | refine jk ?_
     first | refine jg (aZh jj jj) ?_ | refine jk ?_
     first | refine jg (bCv jj (c64 _ bv2)) ?_ | refine jk ?_
     first | refine jg (bMu jj jj em) ?_ | refine jk ?_
     first | refine jgm jj ?_ | refine jk ?_
     first | refine jg (aZf jj jj (fun w => cZg w _ _ _ _ _ _ _ aW) (vint (s32 _ hr))) ?_ | refine jk ?_
     first | refine jgm jj ?_ | refine jk ?_
     first | refine jgm jj ?_ | refine jk ?_
     first | refine jg (bSu jj jj e2) ?_ | refine jk ?_
     first | refine jg (bZi jj jj aO) ?_ | refine jk ?_
     first | refine jg (aZ9 jj jj aM) ?_ | refine jk ?_
     first | refine jg (bCv jj (c64 _ bu2)) ?_ | refine jk ?_
     first | refine jg (aZf jj jj (fun w => cZP w _ _ _ _ _ _) (vint eo)) ?_ | refine jk ?_
     first | refine jg (bVg jj jj t2) ?_ | refine jk ?_
     first | refine jq jj jj ?_ | refine jQ jj jj ?_
     refine jn ?_
     refine kO ?_
     refine WpD.condF rfl ?_
     refine kO ?_
     refine WpD.exit ?_
     refine ⟨⟨g, oM, hq, K.up (by rw [hH]; exact hg) oM oM⟩, ?_⟩
     exact Sub.mk sJ sJ
  ·rintro ⟨⟨⟩, htest⟩
   have hdn := K.down (by rw [hH]; exact hg) htest
   have e5 : IntKind.u64.wrap ((g : Int) - 1) = ((g - 1 : Nat) : Int) := by rw [wu64 oM oM]; omega
   have e6 : IntKind.u64.wrap ((r : Int) + (v1 : Int)) = ((r + v1 : Nat) : Int) := by rw [wu64 oM oM]; omega
   have hg' : (g - 1) * v1 + (r + v1) = H := by
    have : g * v1 = (g - 1) * v1 + v1 := by rw [← Nat.succ_mul]; congr 1; omega
    omega
   have rsh := gZ2 (r + v1)
   by_cases hrb : B ≤ r + v1
   ·have q1 : 1 ≤ (r + v1) / B := by rw [Nat.le_div_iff_mul_le aZY]; omega
    have t1 : ((((r + v1) / B : Nat) : Int) != 0) = true := by rw [bne_iff_ne]; omega
    have hgB' : g - 1 < B := by
     rcases Nat.lt_or_ge (g - 1) B with h | h
     ·exact h
     ·exfalso
      have h0 := K.top
      have h1 : B * v1 ≤ (g - 1) * v1 := Nat.mul_le_mul_right _ h
      have h2 : u0 * B ≤ v1 * B := Nat.mul_le_mul_right _ h0
      rw [Nat.mul_comm] at h1
      omega
    have hup : g - 1 ≤ val u / val v + 1 := by
     refine K.up (r := r + v1) (by rw [hH]; exact hg') hgB' ?_
     have h1 := (dZ6 aZY hgB' bv2 aZY).2
     have h2 : B * B ≤ (r + v1) * B := Nat.mul_le_mul_right _ hrb
     omega
    refine kO ?_
    refine jr<|jm jj<|jS (bSu jj jj e5)<|ja jj<|jn ?_
    refine kO ?_
    refine jr<|jm jj<|jm jj<|jm jj<|jS (bSu jj jj e1)<|jS (aZs jj jj aM)<|jS (aZh jj jj)<|jS (bCv jj (c64 _ bv1))<|jS (bAd jj jj e6)<|ja jj<|jn ?_
    refine kO ?_
    refine jr<|jm jj<|jS (aZf jj jj (fun w => aZH w _ _ _ _ _ _ _ aW) (vint rsh))<|jS (bVn jj jj t1)<|jn ?_
    refine kO ?_
    refine WpD.condT rfl ?_
    refine kO ?_
    refine WpD.exit ?_
    refine ⟨⟨g - 1, hgB', oM, hup⟩, ?_⟩
    exact Sub.mk sJ sJ
   ·have q1 : (r + v1) / B = 0 := Nat.div_eq_of_lt oM
    have t1 : ((((r + v1) / B : Nat) : Int) != 0) = false := by rw [q1]; rfl
    refine kO ?_
    refine jr<|jm jj<|jS (bSu jj jj e5)<|ja jj<|jn ?_
    refine kO ?_
    refine jr<|jm jj<|jm jj<|jm jj<|jS (bSu jj jj e1)<|jS (aZs jj jj aM)<|jS (aZh jj jj)<|jS (bCv jj (c64 _ bv1))<|jS (bAd jj jj e6)<|ja jj<|jn ?_
    refine kO ?_
    refine jr<|jm jj<|jS (aZf jj jj (fun w => aZH w _ _ _ _ _ _ _ aW) (vint rsh))<|jS (bVn jj jj t1)<|jn ?_
    refine kO ?_
    refine WpD.condF rfl ?_
    refine kO ?_
    refine WpD.skip ?_
    refine ⟨⟨(g - 1, r + v1), hg', by simp only; omega, by simp only; omega, by simp only; omega⟩, ?_, by simp only; omega⟩
    exact Sub.mk sJ sJ
 ·rintro ⟨g, hgB, hq1, hq2⟩
  dsimp only
  have hVpos := K.Vpos
  refine kO ?_
  refine jr<|ja jj<|ja jj<|jn ?_
  refine kO ?_
  refine jr<|jm jj<|jm jj<|jn ?_
  refine kO ?_
  refine WpD.loop (α := {p : Nat × List Nat × Nat × Nat // p.1 ≤ v.length ∧ MsInv u v g p.1 p.2.1 p.2.2.1 p.2.2.2}) (fun p => ⟨[(0, .own 1000 Lo.length (v.length + 1) cap), (1, .one (mag v)), (5, .one (ex (.int .i64 (v.length : Int)))), (7, .one (ex (.int .u64 (g : Int)))), (9, .one (ex (.int .u64 (p.1.2.2.1 : Int)))), (10, .one (ex (.int .u64 (p.1.2.2.2 : Int)))), (82, .one (ex (.int .i64 (v.length : Int)))), (83, .one (ex (.int .i64 (p.1.1 : Int))))], [(1000, (Lo ++ ((p.1.2.1 ++ u.drop p.1.1) ++ Hi)).map lb)]⟩) (fun p => v.length - p.1.1) ⟨(0, [], 0, 0), Nat.zero_le _, MsInv.start u v g⟩ ?_ ?_
  ·
   exact Sub.mk sJ sJ
  rintro ⟨⟨k, N, cc, b⟩, hk, hM⟩
  simp only at hk hM
  dsimp only
  obtain ⟨hNl, hNm, hcB, hb1, _⟩ := id hM
  by_cases hkn : k < v.length
  ·obtain ⟨x, hx⟩ : ∃ x, u[k]? = some x := ⟨_, List.getElem?_eq_getElem oM⟩
   obtain ⟨y, hy⟩ : ∃ y, v[k]? = some y := ⟨_, List.getElem?_eq_getElem oM⟩
   have hxB := hum.get hx
   have hyB := hvm.get hy
   obtain ⟨hM', hmb⟩ := hM.step hgB hum hvm hx hy
   obtain ⟨t, ht⟩ : ∃ t, cc + g * y = t := ⟨_, rfl⟩
   rw [ht] at hM' hmb
   have hmul := (dZ6 aZY hgB hyB aZY).2
   have hdr : u.drop k = x :: u.drop (k + 1) := by rw [List.drop_eq_getElem_cons (by omega : k < u.length), (List.getElem?_eq_some_iff.1 hx).2]
   have hMx : (N ++ u.drop k)[k]? = some x := by rw [List.getElem?_append_right oM, hNl, Nat.sub_self, hdr]; rfl
   have hget := fZ2 (Lo := Lo) (Hi := Hi) hMx
   have hkl : k < v.length + 1 := oM
   have hsetl := jZV (Lo := Lo) (Hi := Hi) (List.getElem?_eq_some_iff.1 hMx).1
   have htB : t % B < B := Nat.mod_lt _ aZY
   have b1 : decide ((k : Int) < (v.length : Int)) = true := decide_eq_true oM
   have e7 : IntKind.u64.wrap ((g : Int) * (y : Int)) = ((g * y : Nat) : Int) := by rw [← Int.natCast_mul]; exact wu64 oM oM
   have e8 : IntKind.u64.wrap ((cc : Int) + ((g * y : Nat) : Int)) = (t : Int) := by rw [wu64 oM oM, ← ht]; omega
   have hset : ((Lo ++ ((N ++ u.drop k) ++ Hi)).map lb).set (Lo.length + k) (ex (.int .u32 ((difD x (t % B + b) : Nat) : Int))) = (Lo ++ (((N ++ [difD x (t % B + b)]) ++ u.drop (k + 1)) ++ Hi)).map lb := by
    rw [hdr]; exact jZr Lo N _ Hi x _ hNl
   have e14 : IntKind.u32.wrap ((eZk x (t % B + b) : Nat) : Int) = ((difD x (t % B + b) : Nat) : Int) := by rw [u32w, iZc hxB oM]
   have e13 : IntKind.i64.wrap ((k : Int) + 1) = ((k + 1 : Nat) : Int) := by rw [w64 oM oM]; omega
   refine kO ?_
   refine jr<|jS (bVl jj jj b1)<|jn ?_
   refine kO ?_
   refine WpD.condT rfl ?_
   refine kO ?_
   refine WpD.skip ?_
   refine kO ?_
   refine jr<|jm jj<|ja jj<|jn ?_
   refine kO ?_
   refine jr<|jm jj<|jm jj<|jm jj<|jm jj<|jS (aZs jj jj aM)<|jS (aZh jj jj)<|jS (bCv jj (c64 _ hyB))<|jS (bMu jj jj e7)<|jS (bAd jj jj e8)<|ja jj<|jn ?_
   refine kO ?_
   refine jr<|jm jj<|jm jj<|jS (bZi jj jj aO)<|jS (aZ9 jj jj aM)<|jS (bCv jj (c64 _ hxB))<|jm jj<|jS (bCv jj (u32w _))<|jS (bCv jj (c64 _ htB))<|jS (aZ6 jj jj (fun w => cZy w _ _ _ _ _ _))<|jm jj<|jS (bSu jj jj (gZm hxB htB hb1))<|ja jj<|jn ?_
   refine kO ?_
   refine jr<|jm jj<|jm jj<|jm jj<|jS (bCv jj e14)<|jS (bZi jj jj aO)<|jO (aZK jj jj jj aM aM)<|jn ?_
   refine kO ?_
   refine jr<|jm jj<|jS (aZf jj jj (fun w => aZH w _ _ _ _ _ _ _ aW) (vint (gZ2 _)))<|ja jj<|jn ?_
   refine kO ?_
   refine jr<|jm jj<|jS (aZf jj jj (fun w => aZH w _ _ _ _ _ _ _ aW) (vint (iZb hxB oM)))<|ja jj<|jn ?_
   refine kO ?_
   refine jr<|jS (bAd jj jj e13)<|jm jj<|jn ?_
   refine ⟨⟨(k + 1, N ++ [difD x (t % B + b)], t / B, difB x (t % B + b)), hkn, hM'⟩, ?_, by simp only; omega⟩
   exact Sub.mk sJ sJ
  ·have b1 : decide ((k : Int) < (v.length : Int)) = false := decide_eq_false oM
   have hkv : k = v.length := oM
   subst hkv
   have hdr : u.drop v.length = u0 :: [] := by
    rw [List.drop_eq_getElem_cons (by omega : v.length < u.length), (List.getElem?_eq_some_iff.1 hu0).2, List.drop_eq_nil_of_le oM]
   have hMx : (N ++ u.drop v.length)[v.length]? = some u0 := by rw [List.getElem?_append_right oM, hNl, Nat.sub_self, hdr]; rfl
   have hget := fZ2 (Lo := Lo) (Hi := Hi) hMx
   have hsetl := jZV (Lo := Lo) (Hi := Hi) (List.getElem?_eq_some_iff.1 hMx).1
   have e8 := gZm bu0 hcB hb1
   have e14 : IntKind.u32.wrap ((eZk u0 (cc + b) : Nat) : Int) = ((difD u0 (cc + b) : Nat) : Int) := by rw [u32w, iZc bu0 oM]
   have hset : ((Lo ++ ((N ++ u.drop v.length) ++ Hi)).map lb).set (Lo.length + v.length) (ex (.int .u32 ((difD u0 (cc + b) : Nat) : Int))) = (Lo ++ (((N ++ [difD u0 (cc + b)]) ++ []) ++ Hi)).map lb := by
    rw [hdr]; exact jZr Lo N [] Hi u0 _ hNl
   have hsh := iZb bu0 (show cc + b ≤ B by omega)
   refine kO ?_
   refine jr<|jS (bVl jj jj b1)<|jn ?_
   refine kO ?_
   refine WpD.condF rfl ?_
   refine kO ?_
   refine WpD.exit ?_
   refine kO ?_
   refine jr<|jm jj<|jm jj<|jS (bZi jj jj aO)<|jS (aZ9 jj jj aM)<|jS (bCv jj (c64 _ bu0))<|jm jj<|jS (aZ6 jj jj (fun w => cZy w _ _ _ _ _ _))<|jm jj<|jS (bSu jj jj e8)<|ja jj<|jn ?_
   refine kO ?_
   refine jr<|jm jj<|jm jj<|jm jj<|jS (bCv jj e14)<|jS (bZi jj jj aO)<|jO (aZK jj jj jj aM aM)<|jn ?_
   by_cases hcb : cc + b ≤ u0
   ·obtain ⟨r1, r2⟩ := hM.right rfl hul hu0 hum hq1 hVpos hcb
    have hdd : difD u0 (cc + b) = u0 - (cc + b) := by unfold difD; rw [if_neg oM]
    have hdb : difB u0 (cc + b) = 0 := by unfold difB; rw [if_neg oM]
    have t1 : (((difB u0 (cc + b) : Nat) : Int) == 0) = true := by rw [hdb]; rfl
    have hgw : ((g % B : Nat) : Int) = ((val u / val v : Nat) : Int) := by rw [Nat.mod_eq_of_lt hgB, r1]
    rw [hdd, r2, List.append_nil]
    refine kO ?_
    refine jr<|jm jj<|jS (aZf jj jj (fun w => aZH w _ _ _ _ _ _ _ aW) (vint hsh))<|jS (bVq jj jj t1)<|jn ?_
    refine kO ?_
    refine WpD.condT rfl ?_
    refine kO ?_
    refine jr<|jm jj<|jS (bCv jj ((u32w _).trans hgw))<|ja jj<|jn ?_
    refine kO ?_
    refine WpD.ret ?_
    exact dZm rfl rfl (PLe.refl _) trivial ⟨.inl pQ, trivial⟩
   ·obtain ⟨r1, r2, r3⟩ := hM.wrong rfl hul hu0 hvm hq2 hVpos oM
    have hdd : difD u0 (cc + b) = B - 1 := by unfold difD; rw [if_pos oM]; omega
    have hdb : difB u0 (cc + b) = 1 := by unfold difB; rw [if_pos oM]
    have t1 : (((difB u0 (cc + b) : Nat) : Int) == 0) = false := by rw [hdb]; rfl
    rw [hdd, List.append_nil]
    refine kO ?_
    refine jr<|jm jj<|jS (aZf jj jj (fun w => aZH w _ _ _ _ _ _ _ aW) (vint hsh))<|jS (bVq jj jj t1)<|jn ?_
    refine kO ?_
    refine WpD.condF rfl ?_
    refine kO ?_
    refine WpD.skip ?_
    refine kO ?_
    refine jr<|ja jj<|jn ?_
    refine kO ?_
    refine jr<|jm jj<|jm jj<|jn ?_
    refine kO ?_
    refine WpD.loop (α := {p : Nat × List Nat × Nat // p.1 ≤ v.length ∧ SumInv N v p.1 p.2.1 p.2.2}) (fun p => ⟨[(0, .own 1000 Lo.length (v.length + 1) cap), (1, .one (mag v)), (5, .one (ex (.int .i64 (v.length : Int)))), (7, .one (ex (.int .u64 (g : Int)))), (9, .one (ex (.int .u64 (p.1.2.2 : Int)))), (135, .one (ex (.int .i64 (v.length : Int)))), (136, .one (ex (.int .i64 (p.1.1 : Int))))], [(1000, (Lo ++ ((p.1.2.1 ++ (N.drop p.1.1 ++ [B - 1])) ++ Hi)).map lb)]⟩) (fun p => v.length - p.1.1) ⟨(0, [], 0), Nat.zero_le _, SumInv.start N v⟩ ?_ ?_
    ·
     exact Sub.mk sJ sJ
    rintro ⟨⟨k, A, ca⟩, hk2, hS⟩
    simp only at hk2 hS
    dsimp only
    obtain ⟨hAl, hAm, hca, _⟩ := id hS
    by_cases hkn2 : k < v.length
    ·obtain ⟨x, hx⟩ : ∃ x, N[k]? = some x := ⟨_, List.getElem?_eq_getElem oM⟩
     obtain ⟨y, hy⟩ : ∃ y, v[k]? = some y := ⟨_, List.getElem?_eq_getElem oM⟩
     have hxB := hNm.get hx
     have hyB := hvm.get hy
     have hS' := SumInv.step hNm hvm hS
     rw [hx, hy, Option.getD_some, Option.getD_some] at hS'
     have hdr2 : N.drop k = x :: N.drop (k + 1) := by rw [List.drop_eq_getElem_cons (by omega : k < N.length), (List.getElem?_eq_some_iff.1 hx).2]
     have hMx2 : (A ++ (N.drop k ++ [B - 1]))[k]? = some x := by rw [List.getElem?_append_right oM, hAl, Nat.sub_self, hdr2]; rfl
     have hget2 := fZ2 (Lo := Lo) (Hi := Hi) hMx2
     have hkl : k < v.length + 1 := oM
     have hsetl2 := jZV (Lo := Lo) (Hi := Hi) (List.getElem?_eq_some_iff.1 hMx2).1
     have b2 : decide ((k : Int) < (v.length : Int)) = true := decide_eq_true oM
     have e11 : IntKind.u64.wrap ((x : Int) + (y : Int)) = (x : Int) + (y : Int) := wu64 oM oM
     have e12 : IntKind.u64.wrap ((ca : Int) + ((x : Int) + (y : Int))) = ((ca + x + y : Nat) : Int) := by rw [wu64 oM oM]; omega
     have hset2 : ((Lo ++ ((A ++ (N.drop k ++ [B - 1])) ++ Hi)).map lb).set (Lo.length + k) (ex (.int .u32 (((ca + x + y) % B : Nat) : Int))) = (Lo ++ (((A ++ [(ca + x + y) % B]) ++ (N.drop (k + 1) ++ [B - 1])) ++ Hi)).map lb := by
      rw [hdr2]; exact jZr Lo A (N.drop (k + 1) ++ [B - 1]) Hi x _ hAl
     have e13 : IntKind.i64.wrap ((k : Int) + 1) = ((k + 1 : Nat) : Int) := by rw [w64 oM oM]; omega
     refine kO ?_
     refine jr<|jS (bVl jj jj b2)<|jn ?_
     refine kO ?_
     refine WpD.condT rfl ?_
     refine kO ?_
     refine WpD.skip ?_
     refine kO ?_
     refine jr<|jm jj<|ja jj<|jn ?_
     refine kO ?_
     refine jr<|jm jj<|jm jj<|jm jj<|jS (bZi jj jj aO)<|jS (aZ9 jj jj aM)<|jS (bCv jj (c64 _ hxB))<|jm jj<|jm jj<|jS (aZs jj jj aM)<|jS (aZh jj jj)<|jS (bCv jj (c64 _ hyB))<|jS (bAd jj jj e11)<|jS (bAd jj jj e12)<|ja jj<|jn ?_
     refine kO ?_
     refine jr<|jm jj<|jm jj<|jm jj<|jS (bCv jj (u32w _))<|jS (bZi jj jj aO)<|jO (aZK jj jj jj aM aM)<|jn ?_
     refine kO ?_
     refine jr<|jm jj<|jS (aZf jj jj (fun w => aZH w _ _ _ _ _ _ _ aW) (vint (gZ2 _)))<|ja jj<|jn ?_
     refine kO ?_
     refine jr<|jS (bAd jj jj e13)<|jm jj<|jn ?_
     refine ⟨⟨(k + 1, A ++ [(ca + x + y) % B], (ca + x + y) / B), hkn2, hS'⟩, ?_, by simp only; omega⟩
     exact Sub.mk sJ sJ
    ·have b2 : decide ((k : Int) < (v.length : Int)) = false := decide_eq_false oM
     have hkv2 : k = v.length := oM
     subst hkv2
     obtain ⟨rfl, p2⟩ := r3 A ca hS
     have hdr2 : N.drop v.length = [] := List.drop_eq_nil_of_le oM
     have hMx2 : (A ++ (N.drop v.length ++ [B - 1]))[v.length]? = some (B - 1) := by rw [List.getElem?_append_right oM, hAl, Nat.sub_self, hdr2]; rfl
     have hget2 := fZ2 (Lo := Lo) (Hi := Hi) hMx2
     have hsetl2 := jZV (Lo := Lo) (Hi := Hi) (List.getElem?_eq_some_iff.1 hMx2).1
     have e5 : IntKind.u32.wrap ((1 : Nat) : Int) = ((1 : Nat) : Int) := by rw [IntKind.wrap_u32]; rfl
     have e6 : IntKind.u32.wrap (((B - 1 : Nat) : Int) + ((1 : Nat) : Int)) = ((0 : Nat) : Int) := by rw [IntKind.wrap_u32, aZv]; rfl
     have hset2 : ((Lo ++ ((A ++ (N.drop v.length ++ [B - 1])) ++ Hi)).map lb).set (Lo.length + v.length) (ex (.int .u32 ((0 : Nat) : Int))) = (Lo ++ (pd (val u % val v) (v.length + 1) ++ Hi)).map lb := by
      rw [hdr2, List.nil_append, ← p2]
      have := jZr Lo A [] Hi (B - 1) 0 hAl
      rwa [List.append_nil] at this
     have e1' : IntKind.u64.wrap ((g : Int) - 1) = ((val u / val v : Nat) : Int) := by rw [wu64 oM oM]; omega
     have hgw : ((val u / val v % B : Nat) : Int) = ((val u / val v : Nat) : Int) := by rw [Nat.mod_eq_of_lt K.qlt]
     refine kO ?_
     refine jr<|jS (bVl jj jj b2)<|jn ?_
     refine kO ?_
     refine WpD.condF rfl ?_
     refine kO ?_
     refine WpD.exit ?_
     refine kO ?_
     refine jr<|jm jj<|jm jj<|jS (bZi jj jj aO)<|jS (aZ9 jj jj aM)<|jm jj<|jS (bCv jj e5)<|jS (bAd jj jj e6)<|jS (bZi jj jj aO)<|jO (aZK jj jj jj aM aM)<|jn ?_
     refine kO ?_
     refine jr<|jm jj<|jS (bSu jj jj e1')<|jS (bCv jj ((u32w _).trans hgw))<|ja jj<|jn ?_
     refine kO ?_
     refine WpD.ret ?_
     exact dZm rfl rfl (PLe.refl _) trivial ⟨.inl pQ, trivial⟩
end
end
section
open Go.RowKit Limb
instance : CInt Tryz.prog 5 .u8 := ⟨Tryz.underlying5⟩
def len8 (j : Nat) : Nat := if j = 0 then 0 else Nat.log2 j + 1
def tabOK (S : ByteArray) : Bool := (List.range 256).all fun j => match S.data[j]? with | some b => Nat.beq b.toNat (len8 j) | none => false
theorem idx_run {P : Program} (w : World) {T : TypeId} (hT : P.underlying T = some .string) {S : ByteArray} (hS : tabOK S = true) (k : IntKind) {i : Nat} (hi : i < 256) : (Instr.index T (.string S) (.int k (i : Int))).run P w = .ok (.int .u8 ((len8 i : Nat) : Int)) w := by
 have h := List.all_eq_true.1 hS i (List.mem_range.2 hi)
 cases hb : S.data[i]? with
 | none => rw [hb] at h; cases h
 | some b =>
  rw [hb] at h
  have h := Nat.eq_of_beq_eq_true h
  have hlt := (Array.getElem?_eq_some_iff.1 hb).1
  have hs : S[i]? = some b := by
   have : i < S.size := hlt
   rw [getElem?_pos S i this]
   have := (Array.getElem?_eq_some_iff.1 hb).2
   exact congrArg some this
  have h0 : (0 : Int) ≤ (i : Int) := Int.natCast_nonneg _
  simp only [Instr.index, asIntOf, Sem.run_bind, Sem.run_pure, Result.andThen_ok, run_underlying hT, if_pos h0, Int.toNat_natCast, hs, h]
theorem gZg {t k : Nat} (h : t / 2 ^ k ≠ 0) : Nat.log2 (t / 2 ^ k) + k = Nat.log2 t := by
 have h1 := Nat.log2_self_le h
 have h2 : t / 2 ^ k < 2 ^ (Nat.log2 (t / 2 ^ k) + 1) := Nat.lt_log2_self
 generalize Nat.log2 (t / 2 ^ k) = l at *
 have ht : t ≠ 0 := by rintro rfl; simp at h
 symm
 rw [Nat.log2_eq_iff ht]
 rw [Nat.le_div_iff_mul_le (Nat.two_pow_pos k), ← Nat.pow_add] at h1
 rw [Nat.div_lt_iff_lt_mul (Nat.two_pow_pos k), ← Nat.pow_add] at h2
 exact ⟨h1, by rw [show l + k + 1 = l + 1 + k by omega]; exact h2⟩
theorem shrN (c k : Nat) (hk : k ≤ 32) : (c : Int).fdiv (2 ^ (min ((k : Nat) : Int).toNat IntKind.u32.bits)) = ((c / 2 ^ k : Nat) : Int) := by
 rw [Int.toNat_natCast, show min k IntKind.u32.bits = k from Nat.min_eq_left hk]
 rw [Int.fdiv_eq_ediv_of_nonneg _ (by exact_mod_cast Nat.zero_le _)]
 norm_cast
section
variable (En : Ev)
theorem nlen32 (t : Nat) (ht0 : t ≠ 0) (hB : t < B) : Fn Tryz.prog En 198 [lb t] (ex (.int .i64 ((Nat.log2 t + 1 : Nat) : Int))) := by
 have hl : Nat.log2 t < 32 := (Nat.log2_lt ht0).2 hB
 rw [aZv] at hB
 refine aZb Tryz.func198 rfl Tryz.ntmps198 rfl ?_
 intro w0 h0
 refine kO ?_
 refine jr<|ja jj<|jn ?_
 refine WpD.cut (α := {p : Nat × Nat // p.1 ≠ 0 ∧ p.1 < 65536 ∧ Nat.log2 p.1 + p.2 = Nat.log2 t}) (fun p => ⟨[(0, .one (lb p.1.1)), (2, .one (ex (.int .i64 (p.1.2 : Int))))], []⟩) ?_ ?_
 ·by_cases h : 65536 ≤ t
  ·have b1 : decide ((t : Int) ≥ 65536) = true := decide_eq_true oM
   have e1 : (t : Int).fdiv (2 ^ (min (16 : Int).toNat IntKind.u32.bits)) = ((t / 65536 : Nat) : Int) := shrN t 16 oM
   have hne : t / 2 ^ 16 ≠ 0 := by
    have : (2 : Nat) ^ 16 = 65536 := by decide
    rw [this]; omega
   refine kO ?_
   refine jr<|jm jj<|jS (bVh jj jj b1)<|jn ?_
   refine kO ?_
   refine WpD.condT rfl ?_
   refine kO ?_
   refine jr<|jm jj<|jS (aZf jj jj (fun w => aZH w _ _ _ _ _ _ _ aW) (vint e1))<|ja jj<|jn ?_
   refine kO ?_
   refine jr<|ja jj<|jn ?_
   refine ⟨⟨(t / 65536, 16), hne, by simp only; omega, gZg (k := 16) hne⟩, ?_⟩
   exact Sub.mk sJ sJ
  ·have b1 : decide ((t : Int) ≥ 65536) = false := decide_eq_false oM
   refine kO ?_
   refine jr<|jm jj<|jS (bVh jj jj b1)<|jn ?_
   refine kO ?_
   refine WpD.condF rfl ?_
   refine kO ?_
   refine WpD.skip ?_
   refine ⟨⟨(t, 0), ht0, by simp only; omega, rfl⟩, ?_⟩
   exact Sub.mk sJ sJ
 rintro ⟨⟨x, n⟩, hx0, hx, hl2⟩
 simp only at hx0 hx hl2
 dsimp only
 refine WpD.cut (α := {p : Nat × Nat // p.1 ≠ 0 ∧ p.1 < 256 ∧ Nat.log2 p.1 + p.2 = Nat.log2 t}) (fun p => ⟨[(0, .one (lb p.1.1)), (2, .one (ex (.int .i64 (p.1.2 : Int))))], []⟩) ?_ ?_
 ·by_cases h : 256 ≤ x
  ·have b1 : decide ((x : Int) ≥ 256) = true := decide_eq_true oM
   have e1 : (x : Int).fdiv (2 ^ (min (8 : Int).toNat IntKind.u32.bits)) = ((x / 256 : Nat) : Int) := shrN x 8 oM
   have e2 : IntKind.i64.wrap ((n : Int) + 8) = ((n + 8 : Nat) : Int) := by rw [w64 oM oM]; omega
   have hne : x / 2 ^ 8 ≠ 0 := by
    have : (2 : Nat) ^ 8 = 256 := by decide
    rw [this]; omega
   have hlg := gZg (k := 8) hne
   refine kO ?_
   refine jr<|jm jj<|jS (bVh jj jj b1)<|jn ?_
   refine kO ?_
   refine WpD.condT rfl ?_
   refine kO ?_
   refine jr<|jm jj<|jS (aZf jj jj (fun w => aZH w _ _ _ _ _ _ _ aW) (vint e1))<|ja jj<|jn ?_
   refine kO ?_
   refine jr<|jm jj<|jS (bAd jj jj e2)<|ja jj<|jn ?_
   refine ⟨⟨(x / 256, n + 8), hne, by simp only; omega, by simp only; have : x / 2 ^ 8 = x / 256 := rfl; rw [this] at hlg; omega⟩, ?_⟩
   exact Sub.mk sJ sJ
  ·have b1 : decide ((x : Int) ≥ 256) = false := decide_eq_false oM
   refine kO ?_
   refine jr<|jm jj<|jS (bVh jj jj b1)<|jn ?_
   refine kO ?_
   refine WpD.condF rfl ?_
   refine kO ?_
   refine WpD.skip ?_
   refine ⟨⟨(x, n), hx0, by simp only; omega, hl2⟩, ?_⟩
   exact Sub.mk sJ sJ
 clear hx0 hx hl2
 rintro ⟨⟨z, m⟩, hz0, hz, hl3⟩
 simp only at hz0 hz hl3
 dsimp only
 have e2 : IntKind.u8.wrap (z : Int) = (z : Int) := by rw [IntKind.wrap_u8]; omega
 have h8 : len8 z = Nat.log2 z + 1 := by unfold len8; rw [if_neg hz0]
 have e4 : IntKind.i64.wrap ((len8 z : Nat) : Int) = ((len8 z : Nat) : Int) := by rw [h8]; exact w64 oM oM
 have e5 : IntKind.i64.wrap ((m : Int) + ((len8 z : Nat) : Int)) = ((Nat.log2 t + 1 : Nat) : Int) := by rw [h8, w64 oM oM]; omega
 refine kO ?_
 refine jr<|jm jj<|jm jj<|jS (bCv jj e2)<|jS (rt_idx jj jj (fun w => idx_run w Tryz.underlying9 (by kernel_rfl) _ hz))<|jS (bCv jj e4)<|jS (bAd jj jj e5)<|ja jj<|jn ?_
 refine kO ?_
 refine WpD.ret ?_
 exact rtT rfl jj
theorem nlz32 (t : Nat) (h0 : t ≠ 0) (hB : t < B) : Fn Tryz.prog En 188 [lb t] (ex (.int .i64 ((lz t : Nat) : Int))) := by
 have C1 := nlen32 En t h0 hB
 have hl : Nat.log2 t < 32 := (Nat.log2_lt h0).2 hB
 have e2 : IntKind.i64.wrap (32 - ((Nat.log2 t + 1 : Nat) : Int)) = ((lz t : Nat) : Int) := by unfold lz; rw [w64 oM oM]; omega
 refine aZb Tryz.func188 rfl Tryz.ntmps188 rfl ?_
 intro w0 h0
 refine kO ?_
 refine jr<|ja jj<|jn ?_
 refine kO ?_
 refine jr<|jm jj<|jS (aZa C1 tA)<|jS (bSu jj jj e2)<|ja jj<|jn ?_
 refine kO ?_
 refine WpD.ret ?_
 exact rtT rfl jj
def DivP (x y : Nat) : Pd := tupP [mag (digs (x / y)), mag (digs (x % y))]
theorem mZo (x y : Nat) (hx : (digs x).length ≤ 549755813888) (hxy : x < y) : Fn Tryz.prog En 170 [mag (digs x), mag (digs y)] (DivP x y) := by
 have C1 := dZ1 En (digs x) (digs y) oM (aZg _) (aZg _)
 rw [bZY, if_pos hxy] at C1
 have C2 := jZK En (digs x) (aZg _) oM
 have b1 : decide ((-1 : Int) < 0) = true := by decide
 unfold DivP
 rw [Nat.div_eq_of_lt hxy, Nat.mod_eq_of_lt hxy]
 refine aZb Tryz.func170 rfl Tryz.ntmps170 rfl ?_
 intro w0 h0
 refine kO ?_
 refine jr<|ja jj<|ja jj<|jn ?_
 refine kO ?_
 refine jr<|jm jj<|jm jj<|jS (aZa C1 tB)<|jS (bVl jj jj b1)<|ja jj<|jn ?_
 refine kO ?_
 refine WpD.condT rfl ?_
 refine kO ?_
 refine jr<|jm jj<|jS (aZa C2 tA)<|ja jj<|ja jj<|jn ?_
 refine kO ?_
 refine WpD.ret ?_
 refine ret2 rfl (.tmp rfl) (.tmp rfl) ?_
 rintro h v ⟨vs, rfl, ha⟩
 obtain ⟨u, w, rfl, h1, h2⟩ := ha.two
 exact ⟨_, rfl, eZx _ _ h1, h2, trivial⟩
theorem nZo {x y : Nat} (h : y ≤ x) : decide (cmpL (digs x) (digs y) < 0) = false := by
 rw [bZY, if_neg oM]; split <;> rfl
theorem mZl (x y : Nat) (hxy : y ≤ x) (hy : y ≠ 0) (h2 : (digs x).length ≤ 2) : Fn Tryz.prog En 170 [mag (digs x), mag (digs y)] (DivP x y) := by
 have hl := aZS hxy
 have C1 := dZ1 En (digs x) (digs y) oM (aZg _) (aZg _)
 have C2 := kZM En (digs x) (aZg _) h2
 have C3 := kZM En (digs y) (aZg _) oM
 rw [aZi] at C2 C3
 have hxlt : x < 18446744073709551616 := by
  have h1 := aZV x
  have h3 : B ^ (digs x).length ≤ B ^ 2 := Nat.pow_le_pow_right aZY h2
  have e : B ^ 2 = 18446744073709551616 := by decide
  omega
 have hq : x / y < 18446744073709551616 := Nat.lt_of_le_of_lt (Nat.div_le_self _ _) hxlt
 have hr : x % y < 18446744073709551616 := Nat.lt_of_le_of_lt (Nat.mod_le _ _) hxlt
 have C4 := cZs En (x / y) hq
 have C5 := cZs En (x % y) hr
 have b2 : decide (((digs x).length : Int) ≤ 2) = true := decide_eq_true oM
 have hy0 : (y : Int) ≠ 0 := oM
 have e2 : IntKind.u64.wrap ((x : Int).tdiv (y : Int)) = ((x / y : Nat) : Int) := by
  rw [Int.tdiv_eq_ediv_of_nonneg (Int.natCast_nonneg _), ← Int.natCast_ediv]
  exact wu64 (Int.natCast_nonneg _) (Int.ofNat_lt.2 hq)
 have e6 : (x : Int).tmod (y : Int) = ((x % y : Nat) : Int) := by rw [Int.tmod_eq_emod_of_nonneg (Int.natCast_nonneg _), ← Int.natCast_emod]
 refine aZb Tryz.func170 rfl Tryz.ntmps170 rfl ?_
 intro w0 h0
 refine kO ?_
 refine jr<|ja jj<|ja jj<|jn ?_
 refine kO ?_
 refine jr<|jm jj<|jm jj<|jS (aZa C1 tB)<|jS (bVl jj jj (nZo hxy))<|ja jj<|jn ?_
 refine kO ?_
 refine WpD.condF rfl ?_
 refine kO ?_
 refine jr<|jm jj<|jE jj<|jS (bVe jj jj b2)<|ja jj<|jn ?_
 refine kO ?_
 refine WpD.condT rfl ?_
 refine kO ?_
 refine jr<|jm jj<|jS (aZa C2 tA)<|jm jj<|jS (aZa C3 tA)<|ja jj<|ja jj<|jn ?_
 refine kO ?_
 refine jr<|jm jj<|jm jj<|jS (bQu jj jj e2)<|jS (aZa C4 tA)<|jm jj<|jm jj<|jS (bRe jj jj e6)<|jS (aZa C5 tA)<|ja jj<|ja jj<|jn ?_
 refine kO ?_
 refine WpD.ret ?_
 exact ret2 rfl (.tmp rfl) (.tmp rfl) (PLe.refl _)
theorem mZn (x y : Nat) (hxy : y ≤ x) (hlen : (digs x).length ≤ 549755813888) (h2 : 2 < (digs x).length) (h1 : (digs y).length = 1) : Fn Tryz.prog En 170 [mag (digs x), mag (digs y)] (DivP x y) := by
 have hyB : y < B := by have := aZV y; rwa [h1, Nat.pow_one] at this
 have hy : y ≠ 0 := by rintro rfl; simp [bZz] at h1
 have hyd : digs y = [y] := by
  rw [aZR hy, Nat.mod_eq_of_lt hyB, Nat.div_eq_of_lt hyB, bZz]
 have hne : digs x ≠ [] := by intro h; rw [h] at h2; simp at h2
 have C1 := dZ1 En (digs x) (digs y) oM (aZg _) (aZg _)
 have C2 := eZw En (digs x) hne oM
 have C3 := jZJ En (digs x) [] y (digs x).length oM (aZg _) oM hyB
 rw [aZi, List.append_nil, List.append_nil] at C3
 have hqlt : x / y < B ^ (digs x).length := Nat.lt_of_le_of_lt (Nat.div_le_self _ _) (aZV x)
 have C4 := cZx En (pd (x / y) (digs x).length) (fZn _ _) (by rw [aZP]; omega)
 rw [dZ4 _ _ hqlt] at C4
 have hrlt : x % y < B := Nat.lt_trans (Nat.mod_lt _ oM) hyB
 have C5 := cZs En (x % y) (by rw [aZv] at hrlt; omega)
 have b2 : decide (((digs x).length : Int) ≤ 2) = false := decide_eq_false oM
 have b3 : (((digs y).length : Int) == 1) = true := by rw [h1]; rfl
 have hget : (digs y)[0]? = some y := by rw [hyd]; rfl
 have e3 : IntKind.u64.wrap ((x % y : Nat) : Int) = ((x % y : Nat) : Int) := wu64 (Int.natCast_nonneg _) (Int.ofNat_lt.2 (Nat.lt_trans hrlt aD))
 have hpl : PLe (arrP ((pd (x / y) (digs x).length).map lb) 0 (digs x).length (digs x).length) (mag (pd (x / y) (digs x).length)) := by
  have := bZv (l := pd (x / y) (digs x).length) (cap := (digs x).length) (by rw [aZP]; omega) (fZn _ _)
  rwa [aZP] at this
 refine aZb Tryz.func170 rfl Tryz.ntmps170 rfl ?_
 intro w0 h0
 refine kO ?_
 refine jr<|ja jj<|ja jj<|jn ?_
 refine kO ?_
 refine jr<|jm jj<|jm jj<|jS (aZa C1 tB)<|jS (bVl jj jj (nZo hxy))<|ja jj<|jn ?_
 refine kO ?_
 refine WpD.condF rfl ?_
 refine kO ?_
 refine jr<|jm jj<|jE jj<|jS (bVe jj jj b2)<|ja jj<|jn ?_
 refine kO ?_
 refine WpD.condF rfl ?_
 refine kO ?_
 refine jr<|jm jj<|jE jj<|jS (bVq jj jj b3)<|ja jj<|jn ?_
 refine kO ?_
 refine WpD.condT rfl ?_
 refine kO ?_
 refine jr<|jm jj<|jT (gZ7 C2 jj tA jj jj)<|ja jj<|jn ?_
 refine kO ?_
 refine jr<|jm jj<|jm jj<|jS (aZs (i := 0) jj jj hget)<|jS (aZh jj jj)<|jT (aZT (fun _ => 41) C3 ⟨⟨jj, Option.some_ne_none _⟩, jj, trivial⟩ tA jj jj jj)<|ja jj<|jn ?_
 refine WpD.sub (τ := ⟨[(4, .one (mag (pd (x / y) (digs x).length))), (8, .one (lb (x % y)))], []⟩) ?_ ?_
 ·
  refine Sub.pub 41 rfl rfl ?_ ?_ rfl
  ·repeat (first | exact trivial | refine ⟨.inl ⟨pK, trivial⟩, ?_⟩ | refine ⟨.inl ⟨⟨_, rfl, rfl⟩, Option.some_ne_none _⟩, ?_⟩ | refine ⟨.inl ⟨⟨_, rfl, rfl⟩, ⟨Option.some_ne_none _, Option.some_ne_none _⟩⟩, ?_⟩ | refine ⟨.inr (.inl ⟨_, _, _, _, rfl, rfl, hpl⟩), ?_⟩ | refine ⟨.inr (.inr (.inl ⟨_, _, _, rfl, rfl, hpl⟩)), ?_⟩)
  ·repeat (first | exact trivial | refine jz ?_ | refine jy rfl ?_)
 refine kO ?_
 refine jr<|jm jj<|jS (aZa C4 tA)<|jm jj<|jS (bCv jj e3)<|jS (aZa C5 tA)<|ja jj<|ja jj<|jn ?_
 refine kO ?_
 refine WpD.ret ?_
 exact ret2 rfl (.tmp rfl) (.tmp rfl) (PLe.refl _)
end
end
section
open Go.RowKit Limb
section
variable (En : Ev)
theorem pZZ (n k cap : Nat) (hc : k ≤ cap) : PLe (arrP ((pd n k).map lb) 0 k cap) (mag (pd n k)) := by
 have := bZv (l := pd n k) (cap := cap) (by rw [aZP]; exact hc) (fZn _ _)
 rwa [aZP] at this
set_option maxHeartbeats 2000000 in
theorem mZm (x y : Nat) (hxy : y ≤ x) (hlen : (digs x).length ≤ 549755813888) (h2 : 2 < (digs x).length) (h1 : 2 ≤ (digs y).length) : Fn Tryz.prog En 170 [mag (digs x), mag (digs y)] (DivP x y) := by
 have hy : y ≠ 0 := by rintro rfl; simp [bZz] at h1
 have hle := aZS hxy
 obtain ⟨t, hget⟩ : ∃ t, (digs y)[(digs y).length - 1]? = some t := ⟨_, List.getElem?_eq_getElem oM⟩
 have hlast : (digs y).getLast? = some t := by rw [List.getLast?_eq_getElem?]; exact hget
 have ht0 : t ≠ 0 := eZj hlast
 have htB := (aZg y).get hget
 obtain ⟨hs, hn1, hn2⟩ := lz_spec ht0 htB
 obtain ⟨hVlt, hnorm⟩ := oZw hy hlast hn2 hn1
 have C2 := nlz32 En t ht0 htB
 generalize lz t = s at *
 have C1 := dZ1 En (digs x) (digs y) oM (aZg _) (aZg _)
 have C3 := nshl En (digs y) s oM (aZg _) hs
 have C4 := jZF En (digs x) s oM (aZg _) hs
 rw [aZi] at C3 C4
 have L0 := LdInv.start hy hle hs
 have hV : 0 < y * 2 ^ s := Nat.mul_pos oM (Nat.two_pow_pos s)
 obtain ⟨V, hVV⟩ : ∃ V, y * 2 ^ s = V := ⟨_, rfl⟩
 obtain ⟨X, hXX⟩ : ∃ X, x * 2 ^ s = X := ⟨_, rfl⟩
 have hdone := fun {R qs : List Nat} (h : LdInv (x * 2 ^ s) (y * 2 ^ s) ((digs x).length + 1) 0 R qs) => LdInv.done oM h
 rw [hVV] at C3 hV hVlt hnorm L0 hdone
 rw [hXX] at C4 L0 hdone
 have b2 : decide (((digs x).length : Int) ≤ 2) = false := decide_eq_false oM
 have b3 : (((digs y).length : Int) == 1) = false := by rw [beq_eq_false_iff_ne]; omega
 have e10 : IntKind.i64.wrap (((digs y).length : Int) - 1) = (((digs y).length - 1 : Nat) : Int) := by rw [w64 oM oM]; omega
 have hsl : (digs y).length ≤ (pd V ((digs y).length + 1)).length := by rw [aZP]; omega
 have e13 : IntKind.i64.wrap (((digs x).length : Int) - ((digs y).length : Int)) = (((digs x).length - (digs y).length : Nat) : Int) := by rw [w64 oM oM]; omega
 have e14 : IntKind.i64.wrap ((((digs x).length - (digs y).length : Nat) : Int) + 1) = (((digs x).length - (digs y).length + 1 : Nat) : Int) := by rw [w64 oM oM]; omega
 refine aZb Tryz.func170 rfl Tryz.ntmps170 rfl ?_
 intro w0 h0
 refine kO ?_
 refine jr<|ja jj<|ja jj<|jn ?_
 refine kO ?_
 refine jr<|jm jj<|jm jj<|jS (aZa C1 tB)<|jS (bVl jj jj (nZo hxy))<|ja jj<|jn ?_
 refine kO ?_
 refine WpD.condF rfl ?_
 refine kO ?_
 refine jr<|jm jj<|jE jj<|jS (bVe jj jj b2)<|ja jj<|jn ?_
 refine kO ?_
 refine WpD.condF rfl ?_
 refine kO ?_
 refine jr<|jm jj<|jE jj<|jS (bVq jj jj b3)<|ja jj<|jn ?_
 refine kO ?_
 refine WpD.condF rfl ?_
 refine kO ?_
 refine WpD.skip ?_
 refine kO ?_
 refine jr<|jm jj<|jm jj<|jE jj<|jS (bSu jj jj e10)<|jS (aZs jj jj aM)<|jS (aZh jj jj)<|jS (aZa C2 tA)<|ja jj<|jn ?_
 refine kO ?_
 refine jr<|jm jj<|jm jj<|jS (aZa C3 tB)<|jm jj<|jE jj<|jS (hZ2 jj jj hsl)<|ja jj<|jn ?_
 rw [mZb]
 refine kO ?_
 refine jr<|jm jj<|jm jj<|jT (gZ7 C4 jj tB jj jj)<|ja jj<|jn ?_
 refine kO ?_
 refine jr<|jm jj<|jE jj<|jm jj<|jE jj<|jS (bSu jj jj e13)<|jS (bAd jj jj e14)<|jT (dZC jj jj jj jj oM oM)<|ja jj<|jn ?_
 refine kO ?_
 refine jr<|jm jj<|jE jj<|jm jj<|jE jj<|jS (bSu jj jj e13)<|ja jj<|jn ?_
 refine kO ?_
 refine WpD.loop (α := {p : Nat × List Nat × List Nat // p.1 ≤ (digs x).length - (digs y).length + 1 ∧ LdInv X V ((digs x).length + 1) p.1 p.2.1 p.2.2 ∧ p.2.2.length = (digs x).length - (digs y).length + 1 - p.1}) (fun p => ⟨[(1, .one (mag (digs y))), (4, .own 74 0 ((digs x).length - (digs y).length + 1) ((digs x).length - (digs y).length + 1)), (9, .one (ex (.int .i64 (s : Int)))), (10, .one (mag (pd V (digs y).length))), (11, .own 67 0 ((digs x).length + 1) ((digs x).length + 1)), (12, .one (ex (.int .i64 ((p.1.1 : Int) - 1))))], [(74, (List.replicate p.1.1 0 ++ p.1.2.2).map lb), (67, p.1.2.1.map lb)]⟩) (fun p => p.1.1) ⟨((digs x).length - (digs y).length + 1, pd X ((digs x).length + 1), []), Nat.le_refl _, L0, by simp⟩ ?_ ?_
 ·have hz : List.replicate ((digs x).length - (digs y).length + 1) (ex (.int .u32 0)) = (List.replicate ((digs x).length - (digs y).length + 1) 0 ++ []).map lb := by rw [fZb, List.append_nil]
  have hw : ((((digs x).length - (digs y).length : Nat) : Int)) = (((digs x).length - (digs y).length + 1 : Nat) : Int) - 1 := oM
  rw [hw]
  exact Sub.mk sJ ⟨.inl ⟨_, jj, PsLe.of_eq hz⟩, .inl pQ, trivial⟩
 rintro ⟨⟨k, R, qs⟩, hk, hI, hql⟩
 simp only at hk hI hql
 dsimp only
 cases k with
 | zero =>
  obtain ⟨d1, d2⟩ := hdone hI
  obtain ⟨hRl, hRm, hqm, _, _⟩ := hI
  have b4 : decide ((((0 : Nat) : Int) - 1) ≥ 0) = false := by decide
  have C6 := nshr En R [] s ((digs x).length + 1) oM hRm hs
  rw [List.append_nil, List.append_nil, hRl, d2] at C6
  have C7 := cZx En qs hqm oM
  rw [d1] at C7
  have hrl : x % y < B ^ ((digs x).length + 1) := Nat.lt_of_le_of_lt (Nat.mod_le _ _) (Nat.lt_of_lt_of_le (aZV x) (Nat.pow_le_pow_right aZY oM))
  have C8 := cZx En (pd (x % y) ((digs x).length + 1)) (fZn _ _) (by rw [aZP]; omega)
  rw [dZ4 _ _ hrl] at C8
  rw [List.replicate_zero, List.nil_append]
  have hp1 : PLe (arrP (qs.map lb) 0 ((digs x).length - (digs y).length + 1) ((digs x).length - (digs y).length + 1)) (mag qs) := by
   have := bZv (l := qs) (cap := (digs x).length - (digs y).length + 1) oM hqm
   rwa [hql] at this
  have hp2 := pZZ (x % y) ((digs x).length + 1) ((digs x).length + 1) (Nat.le_refl _)
  refine kO ?_
  refine jr<|jm jj<|jS (bVh jj jj b4)<|jn ?_
  refine kO ?_
  refine WpD.condF rfl ?_
  refine kO ?_
  refine WpD.exit ?_
  refine kO ?_
  refine jr<|jm jj<|jm jj<|jT (aZT (fun _ => 67) C6 ⟨⟨jj, Option.some_ne_none _⟩, jj, trivial⟩ tA jj jj jj)<|jn ?_
  refine WpD.sub (τ := ⟨[(4, .one (mag qs)), (11, .own 67 0 ((digs x).length + 1) ((digs x).length + 1))], [(67, (pd (x % y) ((digs x).length + 1)).map lb)]⟩) ?_ ?_
  ·
   refine Sub.pub 74 rfl rfl ?_ ⟨.inl pQ, trivial⟩ rfl
   repeat (first | exact trivial | refine ⟨.inl ⟨pK, trivial⟩, ?_⟩ | refine ⟨.inl ⟨⟨_, rfl, rfl⟩, Option.some_ne_none _⟩, ?_⟩ | refine ⟨.inl ⟨⟨_, rfl, rfl⟩, ⟨Option.some_ne_none _, Option.some_ne_none _⟩⟩, ?_⟩ | refine ⟨.inr (.inl ⟨_, _, _, _, rfl, rfl, hp1⟩), ?_⟩ | refine ⟨.inr (.inr (.inl ⟨_, _, _, rfl, rfl, hp1⟩)), ?_⟩)
  refine WpD.sub (τ := ⟨[(4, .one (mag qs)), (11, .one (mag (pd (x % y) ((digs x).length + 1))))], []⟩) ?_ ?_
  ·
   refine Sub.pub 67 rfl rfl ?_ ?_ rfl
   ·repeat (first | exact trivial | refine ⟨.inl ⟨pK, trivial⟩, ?_⟩ | refine ⟨.inl ⟨⟨_, rfl, rfl⟩, Option.some_ne_none _⟩, ?_⟩ | refine ⟨.inl ⟨⟨_, rfl, rfl⟩, ⟨Option.some_ne_none _, Option.some_ne_none _⟩⟩, ?_⟩ | refine ⟨.inr (.inl ⟨_, _, _, _, rfl, rfl, hp2⟩), ?_⟩ | refine ⟨.inr (.inr (.inl ⟨_, _, _, rfl, rfl, hp2⟩)), ?_⟩)
   ·repeat (first | exact trivial | refine jz ?_ | refine jy rfl ?_)
  refine kO ?_
  refine jr<|jm jj<|jS (aZa C7 tA)<|jm jj<|jS (aZa C8 tA)<|ja jj<|ja jj<|jn ?_
  refine kO ?_
  refine WpD.ret ?_
  exact ret2 rfl (.tmp rfl) (.tmp rfl) (PLe.refl _)
 | succ j =>
  obtain ⟨hRl, hRm, hqm, _, _⟩ := id hI
  obtain ⟨Lo, u, Hi, hR, hLo, hul⟩ : ∃ Lo u Hi, R = Lo ++ (u ++ Hi) ∧ Lo.length = j ∧ u.length = (digs y).length + 1 := by
   refine ⟨R.take j, (R.drop j).take ((digs y).length + 1), (R.drop j).drop ((digs y).length + 1), ?_, by simp; omega, by simp; omega⟩
   rw [List.take_append_drop, List.take_append_drop]
  subst hR
  have hVu : V < B ^ (u.length - 1) := by rw [hul, Nat.add_sub_cancel]; exact hVlt
  obtain ⟨hult, hI'⟩ := hI.step hV hLo hVu oM
  have hum : Lm u := hRm.sub fun z hz => by simp [hz]
  have hvl := aZP V (digs y).length
  have hvv := dZ4 V (digs y).length hVlt
  have C5 := nstep En Lo u Hi (pd V (digs y).length) ((digs x).length + 1 - j) (by rw [hvl]; omega) (by rw [hvl]; exact h1) (by rw [hvl]; exact hul) hum (fZn _ _) (by rw [hvl]; exact hnorm) (by rw [hvv]; exact hult)
  have e20 : (digs y).length + 1 = j + (digs y).length + 1 - j := oM
  have hLo' : Lo.length = 0 + j := oM
  rw [hvl, hvv, e20, hLo'] at C5
  have b4 : decide ((j : Int) ≥ 0) = true := decide_eq_true oM
  have e7 : IntKind.i64.wrap ((j : Int) + ((digs y).length : Int)) = (j : Int) + ((digs y).length : Int) := w64 oM oM
  have e8 : IntKind.i64.wrap ((j : Int) + ((digs y).length : Int) + 1) = ((j + (digs y).length + 1 : Nat) : Int) := by rw [w64 oM oM]; omega
  have hjl : j < (digs x).length - (digs y).length + 1 := oM
  have hsetl : j < ((List.replicate (j + 1) 0 ++ qs).map lb).length := by simp; omega
  have hset : ((List.replicate (j + 1) 0 ++ qs).map lb).set j (lb (val u / V)) = (List.replicate j 0 ++ (val u / V :: qs)).map lb := by
   have := setL (List.replicate j 0) qs 0 (val u / V)
   rw [List.length_replicate] at this
   rw [List.replicate_succ']
   simp only [List.append_assoc, List.cons_append, List.nil_append] at this ⊢
   exact this
  have e9 : IntKind.i64.wrap ((j : Int) - 1) = (j : Int) - 1 := w64 oM oM
  rw [show (((j + 1 : Nat) : Int) - 1) = (j : Int) by omega]
  refine kO ?_
  refine jr<|jm jj<|jS (bVh jj jj b4)<|jn ?_
  refine kO ?_
  refine WpD.condT rfl ?_
  refine kO ?_
  refine WpD.skip ?_
  refine kO ?_
  refine jr<|jm jj<|jm jj<|jm jj<|jm jj<|jm jj<|jm jj<|jE jj<|jS (bAd jj jj e7)<|jS (bAd jj jj e8)<|jS (fZU jj jj jj oM oM oM)<|jm jj<|jT (aZT (fun _ => 67) C5 ⟨⟨jj, Option.some_ne_none _⟩, jj, trivial⟩ tA jj jj jj)<|jS (aZO jj jj aO)<|jO (aZK jj jj jj aM aM)<|jn ?_
  refine kO ?_
  refine jr<|jm jj<|jS (bSu jj jj e9)<|ja jj<|jn ?_
  rw [hul] at hI'
  refine ⟨⟨(j, Lo ++ (pd (val u % V) ((digs y).length + 1) ++ Hi), val u / V :: qs), by simp only; omega, hI', by simp only [List.length_cons]; omega⟩, ?_, Nat.lt_succ_self j⟩
  have hz : (Lo ++ (pd (val u % V) (j + (digs y).length + 1 - j) ++ Hi)).map lb = (Lo ++ (pd (val u % V) ((digs y).length + 1) ++ Hi)).map lb := by rw [← e20]
  exact Sub.mk sJ ⟨.inl pQ, .inl ⟨_, jj, PsLe.of_eq hz⟩, trivial⟩
theorem ndiv (x y : Nat) (hlen : (digs x).length ≤ 549755813888) (hy : y ≠ 0) : Fn Tryz.prog En 170 [mag (digs x), mag (digs y)] (DivP x y) := by
 by_cases h1 : x < y
 ·exact mZo En x y hlen h1
 ·by_cases h2 : (digs x).length ≤ 2
  ·exact mZl En x y oM hy h2
  ·by_cases h3 : (digs y).length = 1
   ·exact mZn En x y oM hlen oM h3
   ·have : 1 ≤ (digs y).length := by rw [aZR hy]; simp
    exact mZm En x y oM hlen oM oM
end
end
end Go.Proofs.YtfmjdlogjmofbaaGreatDoor

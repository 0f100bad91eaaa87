/- The reference's DivMod, Rem, Gcd, by the divide in full. -/
import Derived.Test.YtfmjdlogjmofbaaGreatDoorMem
import Derived.Test.YtfmjdlogjmofbaaGreatDoorZc
import Derived.Test.YtfmjdlogjmofbaaGreatDoorW
set_option maxRecDepth 3000
namespace Go.Proofs.YtfmjdlogjmofbaaGreatDoor
section
open Go.RowKit Limb
instance cbody151 : CBody Tryz.prog 151 := ⟨⟨_, Tryz.func151, rfl, by rfl⟩⟩
section
variable (En : Ev)
theorem fsumR (l l' : List Nat) (hl : l.length ≤ 1099511627776) (hl' : l'.length ≤ 1099511627776) : Fn Tryz.prog En 162 [mag l, mag l'] (rawM (val l + val l') (max l.length l'.length + 1)) := by
 intro h w vs _ hh ha
 obtain ⟨v, u, rfl, hv, hu⟩ := ha.two
 exact (nZJ v u l l' w (cZJ hh hv) (cZJ hh hu) hl hl').mono fun _ _ hp => eZs hh hp
theorem gZV (neg : Bool) (x k : Nat) (hk : k ≤ 1099511627776) : Fn Tryz.prog En 123 [ex (.bool neg), rawM x k] (zC (sgnZ neg x)) := by
 intro h w vs he hh ha
 obtain ⟨v, u, rfl, hv, l, h1, h2, h3⟩ := ha.two
 have := mZS En neg l oM h w [v, u] he hh ⟨hv, h3, trivial⟩
 unfold zv at this
 rwa [h1] at this
theorem fnegR (s : Bool) (l : List Nat) (hl : l.length ≤ 1099511627776) : Fn Tryz.prog En 66 [zR s l] (zC (-(zv s l))) := by
 intro h w vs _ hh ha
 obtain ⟨v, rfl, hv⟩ := ha.one
 obtain ⟨a, cap, rfl, hz⟩ := lZk hh hv
 exact (nZL s a _ cap _ _ w hz hl).mono fun _ _ hp => eZN hh hp
theorem addZ (s s' : Bool) (x y : Nat) (h : (digs x).length ≤ 1073741824) (h' : (digs y).length ≤ 1073741824) : Fn Tryz.prog En 122 [zR s (digs x), zR s' (digs y)] (zC (sgnZ s x + sgnZ s' y)) := by
 have T1 := fZI En (digs x) oM
 have T2 := fZI En (digs y) oM
 rw [aZi] at T1 T2
 by_cases hs : s = s'
 ·subst hs
  have S1 := fsumR En (digs x) (digs y) oM oM
  rw [aZi, aZi] at S1
  have M1 := gZV En s (x + y) (max (digs x).length (digs y).length + 1) oM
  rw [show sgnZ s (x + y) = sgnZ s x + sgnZ s y by unfold sgnZ; cases s <;> simp <;> omega] at M1
  have e : (s == s) = true := beq_self_eq_true s
  generalize sgnZ s x + sgnZ s y = z at *
  unfold zC at *
  unfold zR at *
  refine aZb Tryz.func122 rfl Tryz.ntmps122 rfl ?_
  intro w0 h0
  refine js<|jr<|jB jj jj jj<|jB jj jj jj<|jA jj jj jj<|jn<|js<|jr<|jF jj jj<|jl jj jj jj<|jS (aZa T1 tA)<|jF jj jj<|jl jj jj jj<|jS (aZa T2 tA)<|ja jj<|ja jj<|jn<|js<|js<|jr<|jF jj jj<|jl jj jj jj<|jF jj jj<|jl jj jj jj<|jS (aZf jj jj (fun w => aZN w CBool.ok _ _ _ _) (bZe e))<|jn<|jt jj<|js<|jr<|jF jj jj<|jl jj jj jj<|jm jj<|jm jj<|jS (aZa S1 tB)<|jS (aZa M1 tB)<|jP jj jj jj jj<|jn<|ji ?_
  exact rtC rfl jj jj
 ·have e : (s == s') = false := beq_eq_false_iff_ne.2 hs
  have C1 := fcmp En (digs x) (digs y) oM oM
  by_cases hxy : y ≤ x
  ·have S1 := fdif En (digs x) (digs y) oM (aZS hxy) (by rw [aZi, aZi]; exact hxy)
   rw [aZi, aZi] at S1
   have M1 := gZV En s (x - y) (digs x).length oM
   rw [show sgnZ s (x - y) = sgnZ s x + sgnZ s' y by unfold sgnZ; cases s <;> cases s' <;> simp at * <;> omega] at M1
   have hc : cmpL (digs x) (digs y) ≥ 0 := by rw [bZY, if_neg oM]; split <;> omega
   generalize cmpL (digs x) (digs y) = q at *
   generalize sgnZ s x + sgnZ s' y = z at *
   unfold zC at *
   unfold zR at *
   refine aZb Tryz.func122 rfl Tryz.ntmps122 rfl ?_
   intro w0 h0
   refine js<|jr<|jB jj jj jj<|jB jj jj jj<|jA jj jj jj<|jn<|js<|jr<|jF jj jj<|jl jj jj jj<|jS (aZa T1 tA)<|jF jj jj<|jl jj jj jj<|jS (aZa T2 tA)<|ja jj<|ja jj<|jn<|js<|js<|jr<|jF jj jj<|jl jj jj jj<|jF jj jj<|jl jj jj jj<|jS (aZf jj jj (fun w => aZN w CBool.ok _ _ _ _) (bZe e))<|jn<|jf jj<|jp<|js<|js<|jr<|jm jj<|jm jj<|jS (aZa C1 tB)<|jS (bHt jj jj)<|jn<|jt jj<|js<|jr<|jF jj jj<|jl jj jj jj<|jm jj<|jm jj<|jS (aZa S1 tB)<|jS (aZa M1 tB)<|jP jj jj jj jj<|jn ?_
   refine ji ?_
   exact rtC rfl jj jj
  ·have S1 := fdif En (digs y) (digs x) oM (aZS oM) (by rw [aZi, aZi]; omega)
   rw [aZi, aZi] at S1
   have M1 := gZV En s' (y - x) (digs y).length oM
   rw [show sgnZ s' (y - x) = sgnZ s x + sgnZ s' y by unfold sgnZ; cases s <;> cases s' <;> simp at * <;> omega] at M1
   have hc : ¬ cmpL (digs x) (digs y) ≥ 0 := by rw [bZY, if_pos oM]; omega
   generalize cmpL (digs x) (digs y) = q at *
   generalize sgnZ s x + sgnZ s' y = z at *
   unfold zC at *
   unfold zR at *
   refine aZb Tryz.func122 rfl Tryz.ntmps122 rfl ?_
   intro w0 h0
   refine js<|jr<|jB jj jj jj<|jB jj jj jj<|jA jj jj jj<|jn<|js<|jr<|jF jj jj<|jl jj jj jj<|jS (aZa T1 tA)<|jF jj jj<|jl jj jj jj<|jS (aZa T2 tA)<|ja jj<|ja jj<|jn<|js<|js<|jr<|jF jj jj<|jl jj jj jj<|jF jj jj<|jl jj jj jj<|jS (aZf jj jj (fun w => aZN w CBool.ok _ _ _ _) (bZe e))<|jn<|jf jj<|jp<|js<|js<|jr<|jm jj<|jm jj<|jS (aZa C1 tB)<|jS (bHf jj jj)<|jn<|jf jj<|jp<|js<|jr<|jF jj jj<|jl jj jj jj<|jm jj<|jm jj<|jS (aZa S1 tB)<|jS (aZa M1 tB)<|jP jj jj jj jj<|jn ?_
   refine ji ?_
   exact rtC rfl jj jj
theorem sgn_C (z : Int) : sgnZ (decide (z < 0)) z.natAbs = z := by
 have := zv_C z
 unfold zv at this
 rwa [aZi] at this
theorem cadd (z z' : Int) (h : sz z ≤ 1073741824) (h' : sz z' ≤ 1073741824) : Fn Tryz.prog En 122 [zC z, zC z'] (zC (z + z')) := by
 have := addZ En (decide (z < 0)) (decide (z' < 0)) z.natAbs z'.natAbs h h'
 rwa [sgn_C, sgn_C] at this
theorem csub (z z' : Int) (h : sz z ≤ 1073741824) (h' : sz z' ≤ 1073741824) : Fn Tryz.prog En 64 [zC z, zC z'] (zC (z - z')) := by
 have C1 := fnegR En (decide (z' < 0)) (digs z'.natAbs) (Nat.le_trans h' oM)
 rw [zv_C] at C1
 have C2 := cadd En z (-z') h (by rw [sz_neg]; exact h')
 rw [show z + -z' = z - z' by omega] at C2
 generalize z - z' = q at *
 generalize -z' = r at *
 unfold zC zR at *
 refine aZb Tryz.func64 rfl Tryz.ntmps64 rfl ?_
 intro w0 h0
 refine js<|jr<|jB jj jj jj<|jB jj jj jj<|jA jj jj jj<|jn<|js<|jr<|jL jj jj jj<|jL jj jj jj<|jS (aZa C1 ⟨jj, trivial⟩)<|jS (aZa C2 ⟨jj, jj, trivial⟩)<|jP jj jj jj jj<|jn<|ji ?_
 exact rtC rfl jj jj
theorem pZh (z : Int) (h : sz z ≤ 1099511627776) : Fn Tryz.prog En 62 [zC z] (ex (.int .i64 (sg3 z))) := by
 have := kZY En (decide (z < 0)) (digs z.natAbs) h
 rwa [zv_C] at this
theorem cabs (z : Int) (h : sz z ≤ 1099511627776) : Fn Tryz.prog En 151 [zC z] (zC (z.natAbs : Int)) := by
 have := fabs En (decide (z < 0)) (digs z.natAbs) h
 rwa [zv_C] at this
theorem cmake (neg : Bool) (n : Nat) (z : Int) (h : (digs n).length ≤ 1099511627776) (hz : z = if neg then -(n : Int) else (n : Int)) : Fn Tryz.prog En 123 [ex (.bool neg), mag (digs n)] (zC z) := by
 have := mZS En neg (digs n) h
 unfold zv sgnZ at this
 rw [aZi] at this
 rw [hz]
 exact this
theorem gZ4 (z : Int) : decide (sg3 z < 0) = decide (z < 0) := by
 unfold sg3
 by_cases h : z < 0
 ·simp [h]; split <;> omega
 ·simp [h]; split <;> (try split) <;> omega
def dmQ (s s' : Bool) (x y : Nat) : Int := if (s != s') then -((x / y : Nat) : Int) else ((x / y : Nat) : Int)
def dmR (s : Bool) (x y : Nat) : Int := if s then -((x % y : Nat) : Int) else ((x % y : Nat) : Int)
theorem dm_pos {s s' : Bool} {x y : Nat} (hy : y ≠ 0) (h : ¬ dmR s x y < 0) : sgnZ s x / sgnZ s' y = dmQ s s' x y ∧ sgnZ s x % sgnZ s' y = dmR s x y := by
 have e := Nat.div_add_mod x y
 have hlt := Nat.mod_lt x (Nat.pos_of_ne_zero hy)
 have ec : (x : Int) = (y : Int) * ((x / y : Nat) : Int) + ((x % y : Nat) : Int) := by exact_mod_cast e.symm
 unfold dmR at h
 refine cZn (by unfold sgnZ; split <;> omega) ?_ (by unfold dmR; omega) (by unfold dmR sgnZ; split <;> split <;> omega)
 unfold sgnZ dmQ dmR
 generalize ((x / y : Nat) : Int) = q at *
 generalize ((x % y : Nat) : Int) = r at *
 cases s <;> cases s' <;> simp [Int.neg_mul, Int.mul_neg] <;> rw [ec] <;> omega
theorem dm_neg {s s' : Bool} {x y : Nat} (hy : y ≠ 0) (h : dmR s x y < 0) : sgnZ s x / sgnZ s' y = (if s' then dmQ s s' x y + 1 else dmQ s s' x y - 1) ∧ sgnZ s x % sgnZ s' y = dmR s x y + y := by
 have e := Nat.div_add_mod x y
 have hlt := Nat.mod_lt x (Nat.pos_of_ne_zero hy)
 have ec : (x : Int) = (y : Int) * ((x / y : Nat) : Int) + ((x % y : Nat) : Int) := by exact_mod_cast e.symm
 cases s with
 | false => unfold dmR at h; simp at h; omega
 | true =>
  unfold dmR at h ⊢
  simp only [if_true] at h ⊢
  refine cZn (by unfold sgnZ; split <;> omega) ?_ oM (by unfold sgnZ; split <;> omega)
  unfold sgnZ dmQ
  generalize ((x / y : Nat) : Int) = q at *
  generalize ((x % y : Nat) : Int) = r at *
  cases s' <;> simp [Int.mul_sub, Int.mul_add, Int.neg_mul, Int.mul_neg] <;> rw [ec] <;> omega
set_option maxHeartbeats 1000000 in
theorem mZU (s : Bool) (l : List Nat) (s' : Bool) (l' : List Nat) (hl : l.length ≤ 536870912) (hl' : l'.length ≤ 536870912) (hlm : Lm l) (hlm' : Lm l') (hy : zv s' l' ≠ 0) :
  Fn Tryz.prog En 121 [zR s l, zR s' l'] (tupP [zC (zv s l / zv s' l'), zC (zv s l % zv s' l'), ex (.bool true)]) := by
 have C1 := fZI En l oM
 have C2 := fZI En l' oM
 have D1 := fZ7 hl hlm
 have D2 := fZ7 hl' hlm'
 have C3 := oZQ En (val l) (val l') D1 D2 (fun h => hy (by unfold zv; rw [h]; cases s' <;> rfl))
 unfold DivP at C3
 have hy0 : val l' ≠ 0 := by intro h; apply hy; unfold zv; rw [h]; cases s' <;> rfl
 generalize hx : val l = x at *
 generalize hyy : val l' = y at *
 have Q1 : (digs (x / y)).length ≤ 536870912 := Nat.le_trans (aZS (Nat.div_le_self _ _)) D1
 have R1 : (digs (x % y)).length ≤ 536870912 := Nat.le_trans (aZS (Nat.mod_le _ _)) D1
 have hlen : (((digs y).length : Int) == 0) = false := by
  rw [beq_eq_false_iff_ne]
  have := gZY y
  rw [decide_eq_true (by omega : 0 < y), decide_eq_true_eq] at this
  omega
 have hX : zv s l = sgnZ s x := by unfold zv; rw [hx]
 have hY : zv s' l' = sgnZ s' y := by unfold zv; rw [hyy]
 rw [hX, hY]
 have C4 := cmake En (s != s') (x / y) (dmQ s s' x y) oM rfl
 have C5 := cmake En s (x % y) (dmR s x y) oM rfl
 have szQ : sz (dmQ s s' x y) ≤ 536870912 := by unfold sz dmQ; split <;> (first | rw [Int.natAbs_neg] | skip) <;> (rw [Int.natAbs_natCast]; exact Q1)
 have szR : sz (dmR s x y) ≤ 536870912 := by unfold sz dmR; split <;> (first | rw [Int.natAbs_neg] | skip) <;> (rw [Int.natAbs_natCast]; exact R1)
 have C6 := pZh En (dmR s x y) oM
 have C7 := cmake En false y (y : Int) oM (by simp)
 have C8 := cadd En (dmR s x y) (y : Int) oM (by unfold sz; simp; omega)
 have C9 := cZ5 En 1 oM oM
 have s1 : sz 1 ≤ 1073741824 := by decide
 have C10 := cadd En (dmQ s s' x y) 1 oM s1
 have C11 := csub En (dmQ s s' x y) 1 oM s1
 have C12 := kZY En s' l' oM
 rw [hY] at C12
 refine aZb Tryz.func121 rfl Tryz.ntmps121 rfl ?_
 intro w0 h0
 refine kO ?_
 refine jr<|jB jj jj jj<|jB jj jj jj<|jA jj jj jj<|jA jj jj jj<|ja jj<|jn ?_
 refine kO ?_
 refine jr<|jF jj jj<|jl jj jj jj<|jS (aZa C1 ⟨jj, trivial⟩)<|jF jj jj<|jl jj jj jj<|jS (aZa C2 ⟨jj, trivial⟩)<|ja jj<|ja jj<|jn ?_
 refine kO ?_
 refine jr<|jm jj<|jE jj<|jS (aZ6 jj jj (fun w => cZ6 w _ _ _ _ _ _))<|jn ?_
 refine WpD.cond rfl (fun hb => (by rw [hlen] at hb; cases hb)) (fun _ => ?_)
 refine WpD.skip ?_
 refine kO ?_
 refine jr<|jm jj<|jm jj<|jS (aZa C3 ⟨jj, jj, trivial⟩)<|jm jj<|jx' jj jj<|jx' jj jj<|ja jj<|ja jj<|jn ?_
 refine kO ?_
 refine jr<|jF jj jj<|jl jj jj jj<|jF jj jj<|jl jj jj jj<|jS (aZ6 jj jj (fun w => iZy w CBool.ok _ _ _ _))<|jm jj<|jS (aZa C4 ⟨jj, jj, trivial⟩)<|jF jj jj<|jl jj jj jj<|jm jj<|jS (aZa C5 ⟨jj, jj, trivial⟩)<|jA jj jj jj<|jA jj jj jj<|jP jj jj jj jj<|jP jj jj jj jj<|jn ?_
 refine kO ?_
 refine jr<|jL jj jj jj<|jS (aZa C6 ⟨jj, trivial⟩)<|jS (aZ6 jj jj (fun w => fZg w _ _ _ _ _ _))<|jn ?_
 refine WpD.cond rfl (fun hb => ?_) (fun hb => ?_)
 ·have hneg : dmR s x y < 0 := by rw [gZ4] at hb; simpa using hb
  obtain ⟨e1, e2⟩ := dm_neg (s' := s') hy0 hneg
  rw [e1, e2]
  refine kO ?_
  refine jr<|jL jj jj jj<|jm jj<|jS (aZa C7 ⟨jj, jj, trivial⟩)<|jS (aZa C8 ⟨jj, jj, trivial⟩)<|jP jj jj jj jj<|jn ?_
  refine kO ?_
  refine jr<|jL jj jj jj<|jS (aZa C12 ⟨jj, trivial⟩)<|jS (aZ6 jj jj (fun w => fZg w _ _ _ _ _ _))<|jn ?_
  refine WpD.cond rfl (fun hb => ?_) (fun hb => ?_)
  ·
   refine kO ?_
   refine jr<|jL jj jj jj<|jS (aZa C9 ⟨jj, trivial⟩)<|jS (aZa C10 ⟨jj, jj, trivial⟩)<|jL jj jj jj<|jP jj jj jj jj<|jP jj jj jj jj<|ja jj<|jn ?_
   have hs' : s' = true := by
    rw [gZ4] at hb
    unfold sgnZ at hb
    cases s'
    ·simp at hb; omega
    ·rfl
   subst hs'
   refine WpD.ret ?_
   exact ret3 rfl (.cell rfl rfl CRow.ok rfl) (.cell rfl rfl CRow.ok rfl) (.tmp rfl) (PLe.refl _)
  ·refine WpD.skip ?_
   refine kO ?_
   refine jr<|jL jj jj jj<|jS (aZa C9 ⟨jj, trivial⟩)<|jS (aZa C11 ⟨jj, jj, trivial⟩)<|jL jj jj jj<|jP jj jj jj jj<|jP jj jj jj jj<|ja jj<|jn ?_
   have hs' : s' = false := by
    rw [gZ4] at hb
    unfold sgnZ at hb
    cases s'
    ·rfl
    ·simp at hb; omega
   subst hs'
   refine WpD.ret ?_
   exact ret3 rfl (.cell rfl rfl CRow.ok rfl) (.cell rfl rfl CRow.ok rfl) (.tmp rfl) (PLe.refl _)
 ·have hneg : ¬ dmR s x y < 0 := by rw [gZ4] at hb; simpa using hb
  obtain ⟨e1, e2⟩ := dm_pos (s' := s') hy0 hneg
  rw [e1, e2]
  refine WpD.skip ?_
  refine kO ?_
  refine jr<|jL jj jj jj<|jL jj jj jj<|jP jj jj jj jj<|jP jj jj jj jj<|ja jj<|jn ?_
  refine WpD.ret ?_
  exact ret3 rfl (.cell rfl rfl CRow.ok rfl) (.cell rfl rfl CRow.ok rfl) (.tmp rfl) (PLe.refl _)
theorem frem (s : Bool) (l : List Nat) (s' : Bool) (l' : List Nat) (hl : l.length ≤ 536870912) (hl' : l'.length ≤ 536870912) (hlm : Lm l) (hlm' : Lm l') (hy : zv s' l' ≠ 0) :
  Fn Tryz.prog En 152 [zR s l, zR s' l'] (zC (zv s l % zv s' l')) := by
 have C1 := mZU En s l s' l' hl hl' hlm hlm' hy
 refine aZb Tryz.func152 rfl Tryz.ntmps152 rfl ?_
 intro w0 h0
 refine kO ?_
 refine jr<|jB jj jj jj<|jB jj jj jj<|jA jj jj jj<|jn ?_
 refine kO ?_
 refine jr<|jL jj jj jj<|jL jj jj jj<|jS (aZa C1 ⟨jj, jj, trivial⟩)<|jm jj<|jx' jj jj<|jx' jj jj<|jx' jj jj<|jA jj jj jj<|jA jj jj jj<|jP jj jj jj jj<|jP jj jj jj jj<|ja jj<|jn ?_
 refine kO ?_
 refine jr<|jL jj jj jj<|jP jj jj jj jj<|jn ?_
 refine WpD.ret ?_
 exact rtC rfl jj jj
theorem crem (z z' : Int) (h : sz z ≤ 536870912) (h' : sz z' ≤ 536870912) (hz : z' ≠ 0) : Fn Tryz.prog En 152 [zC z, zC z'] (zC (z % z')) := by
 have := frem En (decide (z < 0)) (digs z.natAbs) (decide (z' < 0)) (digs z'.natAbs) h h' (aZg _) (aZg _) (by rw [zv_C]; exact hz)
 rwa [zv_C, zv_C] at this
end
end
section
open Go.RowKit Limb
instance cbody133 : CBody Tryz.prog 133 := ⟨⟨_, Tryz.func133, rfl, by rfl⟩⟩
instance cbody38 : CBody Tryz.prog 38 := ⟨⟨_, Tryz.func38, rfl, by rfl⟩⟩
instance cbody70 : CBody Tryz.prog 70 := ⟨⟨_, Tryz.func70, rfl, by rfl⟩⟩
def cmpZ (X Y : Int) : Int := if X < Y then -1 else if Y < X then 1 else 0
theorem nZp (X Y : Int) : -1 ≤ cmpZ X Y ∧ cmpZ X Y ≤ 1 := by unfold cmpZ; split <;> (try split) <;> omega
theorem pZU (z : Int) : -1 ≤ sg3 z ∧ sg3 z ≤ 1 := by unfold sg3; split <;> (try split) <;> omega
theorem jZq {X Y : Int} (h : sg3 X < sg3 Y) : X < Y := by
 unfold sg3 at h
 split at h <;> split at h <;> (try split at h) <;> (try split at h) <;> omega
theorem qZJ {s s' : Bool} {x y : Nat} (h : sg3 (sgnZ s x) = sg3 (sgnZ s' y)) : sg3 (sgnZ s x) * (if x < y then -1 else if y < x then 1 else 0) = cmpZ (sgnZ s x) (sgnZ s' y) := by
 have hX : sgnZ s x = x ∨ sgnZ s x = -(x : Int) := by unfold sgnZ; split <;> simp
 have hY : sgnZ s' y = y ∨ sgnZ s' y = -(y : Int) := by unfold sgnZ; split <;> simp
 generalize sgnZ s x = X at *
 generalize sgnZ s' y = Y at *
 unfold cmpZ
 rcases Int.lt_trichotomy X 0 with hx | hx | hx
 ·have e : sg3 X = -1 := by unfold sg3; rw [if_neg oM, if_pos hx]
  have hy : Y < 0 := by
   rw [e] at h; unfold sg3 at h
   split at h
   ·omega
   ·split at h <;> omega
  rw [e]
  repeat' split
  all_goals omega
 ·have e : sg3 X = 0 := by unfold sg3; rw [if_pos hx]
  have hy : Y = 0 := by
   rw [e] at h; unfold sg3 at h
   split at h
   ·assumption
   ·split at h <;> omega
  rw [e, hx, hy, Int.zero_mul]; rfl
 ·have e : sg3 X = 1 := by unfold sg3; rw [if_neg oM, if_neg oM]
  have hy : 0 < Y := by
   rw [e] at h; unfold sg3 at h
   split at h
   ·omega
   ·split at h <;> omega
  rw [e]
  repeat' split
  all_goals omega
section
variable (En : Ev)
theorem kZU (s : Bool) (l : List Nat) (hl : Lm l) (hlen : l.length ≤ 274877906944) : Fn Tryz.prog En 133 [zR s l] (zC (zv s l)) := by
 have C1 := cZx En l hl oM
 have D1 := aZW hlen hl
 unfold zv
 generalize val l = x at *
 have C2 := jZK En (digs x) (aZg _) oM
 have C3 := cZ4 En s x
 refine aZb Tryz.func133 rfl Tryz.ntmps133 rfl ?_
 intro w0 h0
 refine kO ?_
 refine jr<|jB jj jj jj<|jA jj jj jj<|jn ?_
 refine kO ?_
 refine jr<|jF jj jj<|jl jj jj jj<|jF jj jj<|jl jj jj jj<|jS (aZa C1 tA)<|jS (aZa C2 tA)<|jS (aZa C3 tB)<|jP jj jj jj jj<|jn ?_
 refine kO ?_
 refine WpD.ret ?_
 exact rtC rfl jj jj
set_option maxHeartbeats 1000000 in
theorem icmp (s : Bool) (l : List Nat) (s' : Bool) (l' : List Nat) (hl : Lm l) (hl' : Lm l') (hlen : l.length ≤ 274877906944) (hlen' : l'.length ≤ 274877906944) :
  Fn Tryz.prog En 38 [zR s l, zR s' l'] (ex (.int .i64 (cmpZ (zv s l) (zv s' l')))) := by
 have C1 := iZH En s l hl oM
 have C2 := iZH En s' l' hl' oM
 have C3 := cZx En l hl oM
 have C4 := cZx En l' hl' oM
 have D1 := aZW hlen hl
 unfold zv at *
 generalize val l = x at *
 generalize val l' = y at *
 have C5 := dZ1 En (digs x) (digs y) oM (aZg _) (aZg _)
 rw [bZY] at C5
 by_cases h1 : sg3 (sgnZ s x) < sg3 (sgnZ s' y)
 ·have b1 : decide (sg3 (sgnZ s x) < sg3 (sgnZ s' y)) = true := decide_eq_true h1
  rw [show cmpZ (sgnZ s x) (sgnZ s' y) = -1 by unfold cmpZ; rw [if_pos (jZq h1)]]
  refine aZb Tryz.func38 rfl Tryz.ntmps38 rfl ?_
  intro w0 h0
  refine kO ?_
  refine jr<|jB jj jj jj<|jB jj jj jj<|ja jj<|jn ?_
  refine kO ?_
  refine jr<|jL jj jj jj<|jS (aZa C1 ⟨jj, trivial⟩)<|jL jj jj jj<|jS (aZa C2 ⟨jj, trivial⟩)<|ja jj<|ja jj<|jn ?_
  refine kO ?_
  refine jr<|jm jj<|jm jj<|jS (bVl jj jj b1)<|ja jj<|jn ?_
  refine kO ?_
  refine WpD.condT rfl ?_
  refine kO ?_
  refine jr<|ja jj<|jn ?_
  refine kO ?_
  refine WpD.ret ?_
  exact rtT rfl jj
 ·have b1 : decide (sg3 (sgnZ s x) < sg3 (sgnZ s' y)) = false := decide_eq_false h1
  by_cases h2 : sg3 (sgnZ s x) > sg3 (sgnZ s' y)
  ·have b2 : decide (sg3 (sgnZ s x) > sg3 (sgnZ s' y)) = true := decide_eq_true h2
   have h3 := jZq h2
   rw [show cmpZ (sgnZ s x) (sgnZ s' y) = 1 by unfold cmpZ; rw [if_neg oM, if_pos h3]]
   refine aZb Tryz.func38 rfl Tryz.ntmps38 rfl ?_
   intro w0 h0
   refine kO ?_
   refine jr<|jB jj jj jj<|jB jj jj jj<|ja jj<|jn ?_
   refine kO ?_
   refine jr<|jL jj jj jj<|jS (aZa C1 ⟨jj, trivial⟩)<|jL jj jj jj<|jS (aZa C2 ⟨jj, trivial⟩)<|ja jj<|ja jj<|jn ?_
   refine kO ?_
   refine jr<|jm jj<|jm jj<|jS (bVl jj jj b1)<|ja jj<|jn ?_
   refine kO ?_
   refine WpD.condF rfl ?_
   refine kO ?_
   refine jr<|jm jj<|jm jj<|jS (bVg jj jj b2)<|ja jj<|jn ?_
   refine kO ?_
   refine WpD.condT rfl ?_
   refine kO ?_
   refine jr<|ja jj<|jn ?_
   refine kO ?_
   refine WpD.ret ?_
   exact rtT rfl jj
  ·have b2 : decide (sg3 (sgnZ s x) > sg3 (sgnZ s' y)) = false := decide_eq_false h2
   have e8 : IntKind.i64.wrap (sg3 (sgnZ s x) * (if x < y then -1 else if y < x then 1 else 0)) = cmpZ (sgnZ s x) (sgnZ s' y) := by
    rw [qZJ (s' := s') (y := y) oM]
    have := nZp (sgnZ s x) (sgnZ s' y)
    exact w64 oM oM
   refine aZb Tryz.func38 rfl Tryz.ntmps38 rfl ?_
   intro w0 h0
   refine kO ?_
   refine jr<|jB jj jj jj<|jB jj jj jj<|ja jj<|jn ?_
   refine kO ?_
   refine jr<|jL jj jj jj<|jS (aZa C1 ⟨jj, trivial⟩)<|jL jj jj jj<|jS (aZa C2 ⟨jj, trivial⟩)<|ja jj<|ja jj<|jn ?_
   refine kO ?_
   refine jr<|jm jj<|jm jj<|jS (bVl jj jj b1)<|ja jj<|jn ?_
   refine kO ?_
   refine WpD.condF rfl ?_
   refine kO ?_
   refine jr<|jm jj<|jm jj<|jS (bVg jj jj b2)<|ja jj<|jn ?_
   refine kO ?_
   refine WpD.condF rfl ?_
   refine kO ?_
   refine WpD.skip ?_
   refine kO ?_
   refine jr<|jm jj<|jF jj jj<|jl jj jj jj<|jS (aZa C3 ⟨jj, trivial⟩)<|jF jj jj<|jl jj jj jj<|jS (aZa C4 ⟨jj, trivial⟩)<|jS (aZa C5 ⟨jj, jj, trivial⟩)<|jS (bMu jj jj e8)<|ja jj<|jn ?_
   refine kO ?_
   refine WpD.ret ?_
   exact rtT rfl jj
end
def bitv : Nat → Nat
 | 0 => 0
 | j + 1 => 2 ^ j
theorem pZF : ∀ n : Fin 65, ∀ i : Fin 7, (IntKind.i64.wrap ((BitVec.ofInt IntKind.i64.bits ((n.1 : Nat) : Int) &&& BitVec.ofInt IntKind.i64.bits ((bitv (i.1 + 1) : Nat) : Int)).toNat) != 0) = decide (n.1 / 2 ^ i.1 % 2 = 1) := by decide +kernel
theorem and_bit {n i : Nat} (hn : n ≤ 64) (hi : i < 7) : (IntKind.i64.wrap ((BitVec.ofInt IntKind.i64.bits ((n : Nat) : Int) &&& BitVec.ofInt IntKind.i64.bits ((bitv (i + 1) : Nat) : Int)).toNat) != 0) = decide (n / 2 ^ i % 2 = 1) := pZF ⟨n, oM⟩ ⟨i, hi⟩
theorem mZN : ∀ i : Fin 7, IntKind.i64.wrap (((bitv (i.1 + 1) : Nat) : Int).tdiv 2) = ((bitv i.1 : Nat) : Int) := by decide +kernel
theorem oZM {i : Nat} (hi : i < 7) : IntKind.i64.wrap (((bitv (i + 1) : Nat) : Int).tdiv 2) = ((bitv i : Nat) : Int) := mZN ⟨i, hi⟩
theorem pow_len {x k m : Nat} (h : x < B ^ k) (hk : k ≤ 1073741824) (hm : m ≤ 64) : (digs (x ^ m)).length ≤ 274877906944 := by
 refine Nat.le_trans (aZw (k := k * m + 1) ?_) ?_
 ·refine Nat.lt_of_le_of_lt (Nat.pow_le_pow_left (Nat.le_of_lt h) m) ?_
  rw [← Nat.pow_mul]
  exact Nat.pow_lt_pow_right (by rw [aZv]; omega) oM
 ·have : k * m ≤ 1073741824 * 64 := Nat.mul_le_mul hk hm
  omega
section
variable (En : Ev)
set_option maxHeartbeats 1000000 in
theorem ipow (s : Bool) (l : List Nat) (n : Nat) (hl : Lm l) (hlen : l.length ≤ 1073741824) (hn : n ≤ 64) :
  Fn Tryz.prog En 70 [zR s l, ex (.int .i64 (n : Int))] (tupP [zC (zv s l ^ n), ex (.bool true)]) := by
 have C1 := qZy En 1 oM oM
 have b1 : decide ((n : Int) < 0) = false := decide_eq_false oM
 have b2 : decide ((n : Int) > 64) = false := decide_eq_false oM
 have hlt := bZ2 hl
 have sp : ∀ m, m ≤ 64 → (digs (zv s l ^ m).natAbs).length ≤ 274877906944 := fun m hm => by
  rw [Int.natAbs_pow, jZd]; exact pow_len hlt hlen hm
 generalize hX : zv s l = X at *
 refine aZb Tryz.func70 rfl Tryz.ntmps70 rfl ?_
 intro w0 h0
 refine kO ?_
 refine jr<|jB jj jj jj<|jA jj jj jj<|ja jj<|jn ?_
 refine kO ?_
 refine jr<|jm jj<|jS (bVl jj jj b1)<|jm jj ?_
 first | refine jgm jj ?_ | refine jk ?_
 first | refine jg (bVg jj jj b2) ?_ | refine jk ?_
 first | refine jq jj jj ?_ | refine jQ jj jj ?_
 refine jn ?_
 refine kO ?_
 refine WpD.condF rfl ?_
 refine kO ?_
 refine WpD.skip ?_
 refine kO ?_
 refine jr<|jS (aZa C1 ⟨jj, trivial⟩)<|jA jj jj jj<|jP jj jj jj jj<|jn ?_
 refine kO ?_
 refine jr<|ja jj<|jn ?_
 refine kO ?_
 refine WpD.loop (α := {j : Nat // j ≤ 7}) (fun j => ⟨[(1, .one (ex (.int .i64 (n : Int)))), (2, .ptr 2 0), (4, .ptr 4 0), (6, .ptr 6 0), (7, .one (ex (.int .i64 ((bitv j.1 : Nat) : Int))))], [(2, [ex (.bool s), mag l]), (4, [ex (.bool false), ex (.slice none 0 0)]), (6, aZL (X ^ (n / 2 ^ j.1)))]⟩) (fun j => j.1) ⟨7, Nat.le_refl _⟩ ?_ ?_
 ·have e : n / 2 ^ 7 = 0 := Nat.div_eq_of_lt oM
  dsimp only
  rw [e, Int.pow_zero]
  exact Sub.mk sJ sJ
 ·rintro ⟨j, hj⟩
  dsimp only
  cases j with
  | zero =>
   have b3 : decide (((bitv 0 : Nat) : Int) > 0) = false := by decide
   rw [Nat.pow_zero, Nat.div_one]
   refine kO ?_
   refine jr<|jm jj<|jS (bVg jj jj b3)<|jn ?_
   refine kO ?_
   refine WpD.condF rfl ?_
   refine kO ?_
   refine WpD.exit ?_
   refine kO ?_
   refine jr<|jL jj jj jj<|jP jj jj jj jj<|ja jj<|jn ?_
   refine kO ?_
   refine WpD.ret ?_
   exact rtD rfl jj jj jj
  | succ j =>
   have b3 : decide (((bitv (j + 1) : Nat) : Int) > 0) = true := decide_eq_true (by show (((2 ^ j : Nat)) : Int) > 0; have := Nat.two_pow_pos j; omega)
   have e0 : n / 2 ^ (j + 1) = n / 2 ^ j / 2 := by rw [Nat.pow_succ, Nat.div_div_eq_div_mul]
   have hN : n / 2 ^ j ≤ 64 := Nat.le_trans (Nat.div_le_self _ _) hn
   have ab := and_bit hn (i := j) oM
   have hb := oZM (i := j) oM
   rw [e0]
   generalize hNe : n / 2 ^ j = N at *
   have C2 := imul En (decide (X ^ (N / 2) < 0)) (digs (X ^ (N / 2)).natAbs) (decide (X ^ (N / 2) < 0)) (digs (X ^ (N / 2)).natAbs) (aZg _) (aZg _) (sp _ oM) (sp _ oM)
   rw [zv_C, ← Int.pow_add] at C2
   have C3 := imul En (decide (X ^ (N / 2 + N / 2) < 0)) (digs (X ^ (N / 2 + N / 2)).natAbs) s l (aZg _) hl (sp _ oM) oM
   rw [zv_C, hX, ← Int.pow_succ] at C3
   by_cases hbit : N % 2 = 1
   ·rw [decide_eq_true hbit] at ab
    have eN : (N / 2 + N / 2).succ = N := oM
    rw [eN] at C3
    refine kO ?_
    refine jr<|jm jj<|jS (bVg jj jj b3)<|jn ?_
    refine kO ?_
    refine WpD.condT rfl ?_
    refine kO ?_
    refine WpD.skip ?_
    refine kO ?_
    refine jr<|jL jj jj jj<|jL jj jj jj<|jS (aZa C2 ⟨jj, jj, trivial⟩)<|jP jj jj jj jj<|jn ?_
    refine kO ?_
    refine jr<|jm jj<|jm jj<|jS (aZ6 jj jj (fun w => eZR w _ _ _ _ _ _))<|jS (bVn jj jj ab)<|jn ?_
    refine kO ?_
    refine WpD.condT rfl ?_
    refine kO ?_
    refine jr<|jL jj jj jj<|jL jj jj jj<|jS (aZa C3 ⟨jj, jj, trivial⟩)<|jP jj jj jj jj<|jn ?_
    refine kO ?_
    refine jr<|jm jj<|jS (bQu jj jj hb)<|ja jj<|jn ?_
    refine ⟨⟨j, oM⟩, ?_, Nat.lt_succ_self j⟩
    dsimp only
    rw [hNe]
    exact Sub.mk sJ sJ
   ·rw [decide_eq_false hbit] at ab
    have eN : N / 2 + N / 2 = N := oM
    rw [eN] at C2
    refine kO ?_
    refine jr<|jm jj<|jS (bVg jj jj b3)<|jn ?_
    refine kO ?_
    refine WpD.condT rfl ?_
    refine kO ?_
    refine WpD.skip ?_
    refine kO ?_
    refine jr<|jL jj jj jj<|jL jj jj jj<|jS (aZa C2 ⟨jj, jj, trivial⟩)<|jP jj jj jj jj<|jn ?_
    refine kO ?_
    refine jr<|jm jj<|jm jj<|jS (aZ6 jj jj (fun w => eZR w _ _ _ _ _ _))<|jS (bVn jj jj ab)<|jn ?_
    refine kO ?_
    refine WpD.condF rfl ?_
    refine kO ?_
    refine WpD.skip ?_
    refine kO ?_
    refine jr<|jm jj<|jS (bQu jj jj hb)<|ja jj<|jn ?_
    refine ⟨⟨j, oM⟩, ?_, Nat.lt_succ_self j⟩
    dsimp only
    rw [hNe]
    exact Sub.mk sJ sJ
end
end
section
open Go.RowKit Limb
def zl (z : Int) : Nat := (digs z.natAbs).length
theorem bZh (a b : Int) : zl (a * b) ≤ zl a + zl b := by unfold zl; rw [Int.natAbs_mul]; exact oZW _ _
theorem dZ8 {a b : Int} (h : a.natAbs ≤ b.natAbs) : zl a ≤ zl b := aZS h
theorem eZ8 (a b : Int) : zl (a + b) ≤ max (zl a) (zl b) + 1 := Nat.le_trans (aZS (Int.natAbs_add_le a b)) (oZY _ _)
theorem hZi (a : Int) : zl (-a) = zl a := by unfold zl; rw [Int.natAbs_neg]
theorem bZa {z : Int} (h1 : -18446744073709551616 < z) (h2 : z < 18446744073709551616) : zl z ≤ 2 := aZw (by rw [aZv]; omega)
def Sz (b : Nat) (r : Rat) : Prop := zl r.num ≤ b ∧ zl (r.den : Int) ≤ b
theorem Sz.mono {a b : Nat} {r : Rat} (h : Sz a r) (hab : a ≤ b) : Sz b r := ⟨Nat.le_trans h.1 hab, Nat.le_trans h.2 hab⟩
theorem dZ5 (a b : Int) (h : b ∣ a) : (a / b).natAbs ≤ a.natAbs := by
 obtain ⟨c, rfl⟩ := h
 by_cases hb : b = 0
 ·subst hb; simp
 ·rw [Int.mul_ediv_cancel_left _ hb, Int.natAbs_mul]
  exact Nat.le_mul_of_pos_left _ (Int.natAbs_pos.2 hb)
def gd (n d : Int) : Int := if d < 0 then -((Nat.gcd n.natAbs d.natAbs : Nat) : Int) else ((Nat.gcd n.natAbs d.natAbs : Nat) : Int)
theorem gd_ne {n d : Int} (hd : d ≠ 0) : gd n d ≠ 0 := by
 have : 0 < Nat.gcd n.natAbs d.natAbs := Nat.gcd_pos_of_pos_right _ (Int.natAbs_pos.2 hd)
 unfold gd; split <;> omega
theorem kZd (n d : Int) : gd n d ∣ n ∧ gd n d ∣ d := by
 have h1 : ((Nat.gcd n.natAbs d.natAbs : Nat) : Int) ∣ n := Int.dvd_natAbs.1 (Int.natCast_dvd_natCast.2 (Nat.gcd_dvd_left _ _))
 have h2 : ((Nat.gcd n.natAbs d.natAbs : Nat) : Int) ∣ d := Int.dvd_natAbs.1 (Int.natCast_dvd_natCast.2 (Nat.gcd_dvd_right _ _))
 unfold gd
 split
 ·exact ⟨Int.neg_dvd.2 h1, Int.neg_dvd.2 h2⟩
 ·exact ⟨h1, h2⟩
theorem mZ7 (n : Int) {d : Int} (hd : d ≠ 0) : (Rat.divInt n d).num = n / gd n d ∧ ((Rat.divInt n d).den : Int) = d / gd n d := by
 have h1 : ((Nat.gcd n.natAbs d.natAbs : Nat) : Int) ∣ n := Int.dvd_natAbs.1 (Int.natCast_dvd_natCast.2 (Nat.gcd_dvd_left _ _))
 have h2 : ((Nat.gcd n.natAbs d.natAbs : Nat) : Int) ∣ d := Int.dvd_natAbs.1 (Int.natCast_dvd_natCast.2 (Nat.gcd_dvd_right _ _))
 have hg : d.gcd n = Nat.gcd n.natAbs d.natAbs := by rw [Int.gcd_comm]; rfl
 rw [Rat.num_divInt, Rat.den_divInt, if_neg hd, hg]
 unfold gd
 generalize Nat.gcd n.natAbs d.natAbs = g at *
 by_cases h : d < 0
 ·rw [if_pos h, Int.sign_eq_neg_one_of_neg h, Int.neg_mul, Int.one_mul, Int.ediv_neg, Int.ediv_neg, Int.neg_ediv_of_dvd h1]
  refine ⟨rfl, ?_⟩
  rw [← Int.neg_ediv_of_dvd h2, Int.natCast_ediv, Int.ofNat_natAbs_of_nonpos oM]
 ·rw [if_neg h, Int.sign_eq_one_of_pos oM, Int.one_mul]
  refine ⟨rfl, ?_⟩
  rw [Int.natCast_ediv, Int.natAbs_of_nonneg oM]
theorem bZ0 {b : Nat} {n d : Int} (hd : d ≠ 0) (h1 : zl n ≤ b) (h2 : zl d ≤ b) : Sz b (Rat.divInt n d) := by
 obtain ⟨e1, e2⟩ := mZ7 n hd
 obtain ⟨g1, g2⟩ := kZd n d
 unfold Sz
 rw [e1, e2]
 exact ⟨Nat.le_trans (dZ8 (dZ5 _ _ g1)) h1, Nat.le_trans (dZ8 (dZ5 _ _ g2)) h2⟩
theorem szq_int {b : Nat} {n : Int} (h : zl n ≤ b) (hb : 1 ≤ b) : Sz b (n : Rat) := ⟨by rw [Rat.num_intCast]; exact h, by rw [Rat.den_intCast]; exact Nat.le_trans (show zl ((1 : Nat) : Int) ≤ 1 from by decide) hb⟩
theorem iZh (r : Rat) : (r.den : Int) ≠ 0 := by have := r.den_pos; omega
theorem iZ6 (r s : Rat) : r + s = Rat.divInt (r.num * s.den + s.num * r.den) (r.den * s.den) := by
 have := Rat.divInt_add_divInt r.num s.num (iZh r) (iZh s)
 rwa [Rat.num_divInt_den, Rat.num_divInt_den] at this
theorem lZS (r s : Rat) : r * s = Rat.divInt (r.num * s.num) (r.den * s.den) := by
 have := Rat.divInt_mul_divInt r.num s.num (d₁ := r.den) (d₂ := s.den)
 rwa [Rat.num_divInt_den, Rat.num_divInt_den] at this
theorem nZg (r s : Rat) : (r.den : Int) * s.den ≠ 0 := Int.mul_ne_zero (iZh r) (iZh s)
theorem iZr {a b : Nat} {r s : Rat} (h : Sz a r) (k : Sz b s) : Sz (a + b + 1) (r + s) := by
 rw [iZ6]
 refine bZ0 (nZg r s) ?_ ?_
 ·have := eZ8 (r.num * s.den) (s.num * r.den)
  have := bZh r.num s.den
  have := bZh s.num r.den
  have := h.1; have := h.2; have := k.1; have := k.2
  omega
 ·have := bZh r.den s.den
  have := h.2; have := k.2
  omega
theorem dZg {a b : Nat} {r s : Rat} (h : Sz a r) (k : Sz b s) : Sz (a + b) (r * s) := by
 rw [lZS]
 refine bZ0 (nZg r s) ?_ ?_
 ·have := bZh r.num s.num
  have := h.1; have := k.1
  omega
 ·have := bZh r.den s.den
  have := h.2; have := k.2
  omega
theorem lZw {a : Nat} {r : Rat} (h : Sz a r) : Sz a (-r) := ⟨by show zl (-r.num) ≤ a; rw [hZi]; exact h.1, h.2⟩
theorem lZx {a : Nat} {r : Rat} (h : Sz a r) (h1 : 1 ≤ a) : Sz a r⁻¹ := by
 rw [Rat.inv_def]
 by_cases hz : r.num = 0
 ·rw [hz, Rat.divInt_zero]; exact ⟨by show zl 0 ≤ a; exact Nat.le_trans aD h1, by show zl 1 ≤ a; exact Nat.le_trans aD h1⟩
 ·exact bZ0 hz h.2 h.1
structure RQ where
 s : Bool
 l : List Nat
 t : Bool
 m : List Nat
def RQ.cells (p : RQ) : List Pd := [ex (.bool p.s), mag p.l, ex (.bool p.t), mag p.m]
def RQ.v (p : RQ) : Rat := Rat.divInt (zv p.s p.l) (zv p.t p.m)
structure RQ.ok (p : RQ) : Prop where
 l : Lm p.l
 m : Lm p.m
 ll : p.l.length ≤ 1073741824
 ml : p.m.length ≤ 1073741824
def RQ.of (r : Rat) : RQ := ⟨decide (r.num < 0), digs r.num.natAbs, decide ((r.den : Int) < 0), digs (r.den : Int).natAbs⟩
def qP (p : RQ) : Pd := aggP p.cells
def qC (r : Rat) : Pd := qP (RQ.of r)
def hZ4 (r : Rat) : List Pd := (RQ.of r).cells
instance (p : RQ) : CPart (qP p) p.cells := ⟨.inr rfl⟩
instance (r : Rat) : CPart (qC r) (hZ4 r) := ⟨.inr rfl⟩
theorem RQ.of_v (r : Rat) : (RQ.of r).v = r := by
 unfold RQ.v RQ.of
 simp only
 rw [zv_C, zv_C, Rat.num_divInt_den]
theorem RQ.of_ok {r : Rat} (h : Sz 1073741824 r) : (RQ.of r).ok := ⟨aZg _, aZg _, h.1, h.2⟩
theorem gZu (s : Bool) {l : List Nat} (hl : Lm l) : zl (zv s l) ≤ l.length := by unfold zl; rw [jZd]; exact aZw (bZ2 hl)
theorem RQ.sz {p : RQ} (h : p.ok) : Sz 1073741824 p.v := by
 unfold RQ.v
 by_cases hz : zv p.t p.m = 0
 ·rw [hz, Rat.divInt_zero]; exact ⟨by show zl 0 ≤ _; exact Nat.le_trans aD (show 1 ≤ 1073741824 by decide), by show zl 1 ≤ _; exact Nat.le_trans aD (show 1 ≤ 1073741824 by decide)⟩
 ·exact bZ0 hz (Nat.le_trans (gZu _ h.l) h.ll) (Nat.le_trans (gZu _ h.m) h.ml)
theorem lZU (n : Int) {d : Int} (hd : d ≠ 0) : qC (Rat.divInt n d) = aggP [ex (.bool (decide (n / gd n d < 0))), mag (digs (n / gd n d).natAbs), ex (.bool (decide (d / gd n d < 0))), mag (digs (d / gd n d).natAbs)] := by
 obtain ⟨e1, e2⟩ := mZ7 n hd
 unfold qC qP RQ.cells RQ.of
 rw [e1, e2]
end
end Go.Proofs.YtfmjdlogjmofbaaGreatDoor

/- The reference's DivMod, Rem, Gcd, by the divide in full. -/
import Derived.Test.YtdieokoenhncfaaGreatDoorMem
import Derived.Test.YtdieokoenhncfaaGreatDoorZc
set_option maxRecDepth 3000
namespace Go.Proofs.YtdieokoenhncfaaGreatDoor
open Go.RowKit Limb
instance cbody151 : CBody Tryz.prog 151 := ⟨⟨_, Tryz.func151, rfl, by rfl⟩⟩
section
variable (En : Ev)
theorem fsumR (l l' : List Nat) (hl : l.length ≤ 1099511627776) (hl' : l'.length ≤ 1099511627776) : Fn Tryz.prog En 176 [mag l, mag l'] (rawM (val l + val l') (max l.length l'.length + 1)) := by
 intro h w vs _ hh ha
 obtain ⟨v, u, rfl, hv, hu⟩ := ha.two
 exact (kZB v u l l' w (cZk hh hv) (cZk hh hu) hl hl').mono fun _ _ hp => dZw hh hp
theorem fZ2 (neg : Bool) (x k : Nat) (hk : k ≤ 1099511627776) : Fn Tryz.prog En 123 [ex (.bool neg), rawM x k] (zC (sgnZ neg x)) := by
 intro h w vs he hh ha
 obtain ⟨v, u, rfl, hv, l, h1, h2, h3⟩ := ha.two
 have := kZc En neg l (by omega) h w [v, u] he hh ⟨hv, h3, trivial⟩
 unfold zv at this
 rwa [h1] at this
theorem fnegR (s : Bool) (l : List Nat) (hl : l.length ≤ 1099511627776) : Fn Tryz.prog En 120 [zR s l] (zC (-(zv s l))) := by
 intro h w vs _ hh ha
 obtain ⟨v, rfl, hv⟩ := ha.one
 obtain ⟨a, cap, rfl, hz⟩ := iZH hh hv
 exact (kZD s a _ cap _ _ w hz hl).mono fun _ _ hp => dZG hh hp
theorem addZ (s s' : Bool) (x y : Nat) (h : (digs x).length ≤ 1073741824) (h' : (digs y).length ≤ 1073741824) : Fn Tryz.prog En 168 [zR s (digs x), zR s' (digs y)] (zC (sgnZ s x + sgnZ s' y)) := by
 have T1 := iZ5 En (digs x) (by omega)
 have T2 := iZ5 En (digs y) (by omega)
 rw [aZq] at T1 T2
 by_cases hs : s = s'
 ·subst hs
  have S1 := fsumR En (digs x) (digs y) (by omega) (by omega)
  rw [aZq, aZq] at S1
  have M1 := fZ2 En s (x + y) (max (digs x).length (digs y).length + 1) (by omega)
  rw [show sgnZ s (x + y) = sgnZ s x + sgnZ s y by unfold sgnZ; cases s <;> simp <;> omega] at M1
  have e : (s == s) = true := beq_self_eq_true s
  generalize sgnZ s x + sgnZ s y = z at *
  unfold zC at *
  unfold zR at *
  refine aZb Tryz.func168 rfl Tryz.ntmps168 rfl ?_
  intro w0 h0
  refine js (jr (jB jj jj jj (jB jj jj jj (jA jj jj jj (jn (js (jr (jF jj jj (jl jj jj jj (jS (aZa T1 ⟨jj, trivial⟩) (jF jj jj (jl jj jj jj (jS (aZa T2 ⟨jj, trivial⟩) (ja jj (ja jj (jn (js (js (jr (jF jj jj (jl jj jj jj (jF jj jj (jl jj jj jj (jS (aZd jj jj (fun w => bZg w CBool.ok _ _ _ _) (aZm e)) (jn (jt jj (js (jr (jF jj jj (jl jj jj jj (jm jj (jm jj (jS (aZa S1 ⟨jj, jj, trivial⟩) (jS (aZa M1 ⟨jj, jj, trivial⟩) (jP jj jj jj jj (jn (ji ?_)))))))))))))))))))))))))))))))))))))
  exact rtC rfl jj jj
 ·have e : (s == s') = false := beq_eq_false_iff_ne.2 hs
  have C1 := fcmp En (digs x) (digs y) (by omega) (by omega)
  by_cases hxy : y ≤ x
  ·have S1 := fdif En (digs x) (digs y) (by omega) (aZG hxy) (by rw [aZq, aZq]; exact hxy)
   rw [aZq, aZq] at S1
   have M1 := fZ2 En s (x - y) (digs x).length (by omega)
   rw [show sgnZ s (x - y) = sgnZ s x + sgnZ s' y by unfold sgnZ; cases s <;> cases s' <;> simp at * <;> omega] at M1
   have hc : cmpL (digs x) (digs y) ≥ 0 := by rw [bZ6, if_neg (by omega)]; split <;> omega
   generalize cmpL (digs x) (digs y) = q at *
   generalize sgnZ s x + sgnZ s' y = z at *
   unfold zC at *
   unfold zR at *
   refine aZb Tryz.func168 rfl Tryz.ntmps168 rfl ?_
   intro w0 h0
   refine js (jr (jB jj jj jj (jB jj jj jj (jA jj jj jj (jn (js (jr (jF jj jj (jl jj jj jj (jS (aZa T1 ⟨jj, trivial⟩) (jF jj jj (jl jj jj jj (jS (aZa T2 ⟨jj, trivial⟩) (ja jj (ja jj (jn (js (js (jr (jF jj jj (jl jj jj jj (jF jj jj (jl jj jj jj (jS (aZd jj jj (fun w => bZg w CBool.ok _ _ _ _) (aZm e)) (jn (jf jj (jp (js (js (jr (jm jj (jm jj (jS (aZa C1 ⟨jj, jj, trivial⟩) (jS (bHt jj jj) (jn (jt jj (js (jr (jF jj jj (jl jj jj jj (jm jj (jm jj (jS (aZa S1 ⟨jj, jj, trivial⟩) (jS (aZa M1 ⟨jj, jj, trivial⟩) (jP jj jj jj jj (jn ?_))))))))))))))))))))))))))))))))))))))))))))))
   refine ji ?_
   exact rtC rfl jj jj
  ·have S1 := fdif En (digs y) (digs x) (by omega) (aZG (by omega)) (by rw [aZq, aZq]; omega)
   rw [aZq, aZq] at S1
   have M1 := fZ2 En s' (y - x) (digs y).length (by omega)
   rw [show sgnZ s' (y - x) = sgnZ s x + sgnZ s' y by unfold sgnZ; cases s <;> cases s' <;> simp at * <;> omega] at M1
   have hc : ¬ cmpL (digs x) (digs y) ≥ 0 := by rw [bZ6, if_pos (by omega)]; omega
   generalize cmpL (digs x) (digs y) = q at *
   generalize sgnZ s x + sgnZ s' y = z at *
   unfold zC at *
   unfold zR at *
   refine aZb Tryz.func168 rfl Tryz.ntmps168 rfl ?_
   intro w0 h0
   refine js (jr (jB jj jj jj (jB jj jj jj (jA jj jj jj (jn (js (jr (jF jj jj (jl jj jj jj (jS (aZa T1 ⟨jj, trivial⟩) (jF jj jj (jl jj jj jj (jS (aZa T2 ⟨jj, trivial⟩) (ja jj (ja jj (jn (js (js (jr (jF jj jj (jl jj jj jj (jF jj jj (jl jj jj jj (jS (aZd jj jj (fun w => bZg w CBool.ok _ _ _ _) (aZm e)) (jn (jf jj (jp (js (js (jr (jm jj (jm jj (jS (aZa C1 ⟨jj, jj, trivial⟩) (jS (bHf jj jj) (jn (jf jj (jp (js (jr (jF jj jj (jl jj jj jj (jm jj (jm jj (jS (aZa S1 ⟨jj, jj, trivial⟩) (jS (aZa M1 ⟨jj, jj, trivial⟩) (jP jj jj jj jj (jn ?_)))))))))))))))))))))))))))))))))))))))))))))))
   refine ji ?_
   exact rtC rfl jj jj
theorem sgn_C (z : Int) : sgnZ (decide (z < 0)) z.natAbs = z := by
 have := zv_C z
 unfold zv at this
 rwa [aZq] at this
theorem cadd (z z' : Int) (h : sz z ≤ 1073741824) (h' : sz z' ≤ 1073741824) : Fn Tryz.prog En 168 [zC z, zC z'] (zC (z + z')) := by
 have := addZ En (decide (z < 0)) (decide (z' < 0)) z.natAbs z'.natAbs h h'
 rwa [sgn_C, sgn_C] at this
theorem csub (z z' : Int) (h : sz z ≤ 1073741824) (h' : sz z' ≤ 1073741824) : Fn Tryz.prog En 169 [zC z, zC z'] (zC (z - z')) := by
 have C1 := fnegR En (decide (z' < 0)) (digs z'.natAbs) (Nat.le_trans h' (by omega))
 rw [zv_C] at C1
 have C2 := cadd En z (-z') h (by rw [sz_neg]; exact h')
 rw [show z + -z' = z - z' by omega] at C2
 generalize z - z' = q at *
 generalize -z' = r at *
 unfold zC zR at *
 refine aZb Tryz.func169 rfl Tryz.ntmps169 rfl ?_
 intro w0 h0
 refine js (jr (jB jj jj jj (jB jj jj jj (jA jj jj jj (jn (js (jr (jL jj jj jj (jL jj jj jj (jS (aZa C1 ⟨jj, trivial⟩) (jS (aZa C2 ⟨jj, jj, trivial⟩) (jP jj jj jj jj (jn (ji ?_))))))))))))))
 exact rtC rfl jj jj
theorem csign (z : Int) (h : sz z ≤ 1099511627776) : Fn Tryz.prog En 119 [zC z] (ex (.int .i64 (sg3 z))) := by
 have := lZx En (decide (z < 0)) (digs z.natAbs) h
 rwa [zv_C] at this
theorem cmake (neg : Bool) (n : Nat) (z : Int) (h : (digs n).length ≤ 1099511627776) (hz : z = if neg then -(n : Int) else (n : Int)) : Fn Tryz.prog En 123 [ex (.bool neg), mag (digs n)] (zC z) := by
 have := kZc En neg (digs n) h
 unfold zv sgnZ at this
 rw [aZq] at this
 rw [hz]
 exact this
theorem fZj (z : Int) : decide (sg3 z < 0) = decide (z < 0) := by
 unfold sg3
 by_cases h : z < 0
 ·simp [h]; split <;> omega
 ·simp [h]; split <;> (try split) <;> omega
def dmQ (s s' : Bool) (x y : Nat) : Int := if (s != s') then -((x / y : Nat) : Int) else ((x / y : Nat) : Int)
def dmR (s : Bool) (x y : Nat) : Int := if s then -((x % y : Nat) : Int) else ((x % y : Nat) : Int)
theorem dm_pos {s s' : Bool} {x y : Nat} (hy : y ≠ 0) (h : ¬ dmR s x y < 0) : sgnZ s x / sgnZ s' y = dmQ s s' x y ∧ sgnZ s x % sgnZ s' y = dmR s x y := by
 have e := Nat.div_add_mod x y
 have hlt := Nat.mod_lt x (Nat.pos_of_ne_zero hy)
 have ec : (x : Int) = (y : Int) * ((x / y : Nat) : Int) + ((x % y : Nat) : Int) := by exact_mod_cast e.symm
 unfold dmR at h
 refine bZF (by unfold sgnZ; split <;> omega) ?_ (by unfold dmR; omega) (by unfold dmR sgnZ; split <;> split <;> omega)
 unfold sgnZ dmQ dmR
 generalize ((x / y : Nat) : Int) = q at *
 generalize ((x % y : Nat) : Int) = r at *
 cases s <;> cases s' <;> simp [Int.neg_mul, Int.mul_neg] <;> rw [ec] <;> omega
theorem dm_neg {s s' : Bool} {x y : Nat} (hy : y ≠ 0) (h : dmR s x y < 0) : sgnZ s x / sgnZ s' y = (if s' then dmQ s s' x y + 1 else dmQ s s' x y - 1) ∧ sgnZ s x % sgnZ s' y = dmR s x y + y := by
 have e := Nat.div_add_mod x y
 have hlt := Nat.mod_lt x (Nat.pos_of_ne_zero hy)
 have ec : (x : Int) = (y : Int) * ((x / y : Nat) : Int) + ((x % y : Nat) : Int) := by exact_mod_cast e.symm
 cases s with
 | false => unfold dmR at h; simp at h; omega
 | true =>
  unfold dmR at h ⊢
  simp only [if_true] at h ⊢
  refine bZF (by unfold sgnZ; split <;> omega) ?_ (by omega) (by unfold sgnZ; split <;> omega)
  unfold sgnZ dmQ
  generalize ((x / y : Nat) : Int) = q at *
  generalize ((x % y : Nat) : Int) = r at *
  cases s' <;> simp [Int.mul_sub, Int.mul_add, Int.neg_mul, Int.mul_neg] <;> rw [ec] <;> omega
set_option maxHeartbeats 1000000 in
theorem kZe (s : Bool) (l : List Nat) (s' : Bool) (l' : List Nat) (hl : l.length ≤ 536870912) (hl' : l'.length ≤ 536870912) (hlm : Lm l) (hlm' : Lm l') (hy : zv s' l' ≠ 0) :
  Fn Tryz.prog En 153 [zR s l, zR s' l'] (tupP [zC (zv s l / zv s' l'), zC (zv s l % zv s' l'), ex (.bool true)]) := by
 have C1 := iZ5 En l (by omega)
 have C2 := iZ5 En l' (by omega)
 have D1 := eZx hl hlm
 have D2 := eZx hl' hlm'
 have C3 := lZ2 En (val l) (val l') D1 D2 (fun h => hy (by unfold zv; rw [h]; cases s' <;> rfl))
 unfold DivP at C3
 have hy0 : val l' ≠ 0 := by intro h; apply hy; unfold zv; rw [h]; cases s' <;> rfl
 generalize hx : val l = x at *
 generalize hyy : val l' = y at *
 have Q1 : (digs (x / y)).length ≤ 536870912 := Nat.le_trans (aZG (Nat.div_le_self _ _)) D1
 have R1 : (digs (x % y)).length ≤ 536870912 := Nat.le_trans (aZG (Nat.mod_le _ _)) D1
 have hlen : (((digs y).length : Int) == 0) = false := by
  rw [beq_eq_false_iff_ne]
  have := fZ5 y
  rw [decide_eq_true (by omega : 0 < y), decide_eq_true_eq] at this
  omega
 have hX : zv s l = sgnZ s x := by unfold zv; rw [hx]
 have hY : zv s' l' = sgnZ s' y := by unfold zv; rw [hyy]
 rw [hX, hY]
 have C4 := cmake En (s != s') (x / y) (dmQ s s' x y) (by omega) rfl
 have C5 := cmake En s (x % y) (dmR s x y) (by omega) rfl
 have szQ : sz (dmQ s s' x y) ≤ 536870912 := by unfold sz dmQ; split <;> (first | rw [Int.natAbs_neg] | skip) <;> (rw [Int.natAbs_natCast]; exact Q1)
 have szR : sz (dmR s x y) ≤ 536870912 := by unfold sz dmR; split <;> (first | rw [Int.natAbs_neg] | skip) <;> (rw [Int.natAbs_natCast]; exact R1)
 have C6 := csign En (dmR s x y) (by omega)
 have C7 := cmake En false y (y : Int) (by omega) (by simp)
 have C8 := cadd En (dmR s x y) (y : Int) (by omega) (by unfold sz; simp; omega)
 have C9 := eZR En 1 (by omega) (by omega)
 have s1 : sz 1 ≤ 1073741824 := by decide
 have C10 := cadd En (dmQ s s' x y) 1 (by omega) s1
 have C11 := csub En (dmQ s s' x y) 1 (by omega) s1
 have C12 := lZx En s' l' (by omega)
 rw [hY] at C12
 refine aZb Tryz.func153 rfl Tryz.ntmps153 rfl ?_
 intro w0 h0
 repeat (first | apply js | apply jb)
 refine jr (jB jj jj jj (jB jj jj jj (jA jj jj jj (jA jj jj jj (ja jj (jn ?_))))))
 repeat (first | apply js | apply jb)
 refine jr (jF jj jj (jl jj jj jj (jS (aZa C1 ⟨jj, trivial⟩) (jF jj jj (jl jj jj jj (jS (aZa C2 ⟨jj, trivial⟩) (ja jj (ja jj (jn ?_)))))))))
 repeat (first | apply js | apply jb)
 refine jr (jm jj (jE jj (jS (aZu jj jj (fun w => aZ4 w _ _ _ _ _ _)) (jn ?_))))
 refine WpD.cond rfl (fun hb => (by rw [hlen] at hb; cases hb)) (fun _ => ?_)
 refine WpD.skip ?_
 repeat (first | apply js | apply jb)
 refine jr (jm jj (jm jj (jS (aZa C3 ⟨jj, jj, trivial⟩) (jm jj (jx' jj jj (jx' jj jj (ja jj (ja jj (jn ?_)))))))))
 repeat (first | apply js | apply jb)
 refine jr (jF jj jj (jl jj jj jj (jF jj jj (jl jj jj jj (jS (aZu jj jj (fun w => bZz w CBool.ok _ _ _ _)) (jm jj (jS (aZa C4 ⟨jj, jj, trivial⟩) (jF jj jj (jl jj jj jj (jm jj (jS (aZa C5 ⟨jj, jj, trivial⟩) (jA jj jj jj (jA jj jj jj (jP jj jj jj jj (jP jj jj jj jj (jn ?_))))))))))))))))
 repeat (first | apply js | apply jb)
 refine jr (jL jj jj jj (jS (aZa C6 ⟨jj, trivial⟩) (jS (aZu jj jj (fun w => aZw w _ _ _ _ _ _)) (jn ?_))))
 refine WpD.cond rfl (fun hb => ?_) (fun hb => ?_)
 ·have hneg : dmR s x y < 0 := by rw [fZj] at hb; simpa using hb
  obtain ⟨e1, e2⟩ := dm_neg (s' := s') hy0 hneg
  rw [e1, e2]
  repeat (first | apply js | apply jb)
  refine jr (jL jj jj jj (jm jj (jS (aZa C7 ⟨jj, jj, trivial⟩) (jS (aZa C8 ⟨jj, jj, trivial⟩) (jP jj jj jj jj (jn ?_))))))
  repeat (first | apply js | apply jb)
  refine jr (jL jj jj jj (jS (aZa C12 ⟨jj, trivial⟩) (jS (aZu jj jj (fun w => aZw w _ _ _ _ _ _)) (jn ?_))))
  refine WpD.cond rfl (fun hb => ?_) (fun hb => ?_)
  ·
   repeat (first | apply js | apply jb)
   refine jr (jL jj jj jj (jS (aZa C9 ⟨jj, trivial⟩) (jS (aZa C10 ⟨jj, jj, trivial⟩) (jL jj jj jj (jP jj jj jj jj (jP jj jj jj jj (ja jj (jn ?_))))))))
   have hs' : s' = true := by
    rw [fZj] at hb
    unfold sgnZ at hb
    cases s'
    ·simp at hb; omega
    ·rfl
   subst hs'
   refine WpD.ret ?_
   exact ret3 rfl (.cell rfl rfl CRow.ok rfl) (.cell rfl rfl CRow.ok rfl) (.tmp rfl) (PLe.refl _)
  ·refine WpD.skip ?_
   repeat (first | apply js | apply jb)
   refine jr (jL jj jj jj (jS (aZa C9 ⟨jj, trivial⟩) (jS (aZa C11 ⟨jj, jj, trivial⟩) (jL jj jj jj (jP jj jj jj jj (jP jj jj jj jj (ja jj (jn ?_))))))))
   have hs' : s' = false := by
    rw [fZj] at hb
    unfold sgnZ at hb
    cases s'
    ·rfl
    ·simp at hb; omega
   subst hs'
   refine WpD.ret ?_
   exact ret3 rfl (.cell rfl rfl CRow.ok rfl) (.cell rfl rfl CRow.ok rfl) (.tmp rfl) (PLe.refl _)
 ·have hneg : ¬ dmR s x y < 0 := by rw [fZj] at hb; simpa using hb
  obtain ⟨e1, e2⟩ := dm_pos (s' := s') hy0 hneg
  rw [e1, e2]
  refine WpD.skip ?_
  repeat (first | apply js | apply jb)
  refine jr (jL jj jj jj (jL jj jj jj (jP jj jj jj jj (jP jj jj jj jj (ja jj (jn ?_))))))
  refine WpD.ret ?_
  exact ret3 rfl (.cell rfl rfl CRow.ok rfl) (.cell rfl rfl CRow.ok rfl) (.tmp rfl) (PLe.refl _)
theorem frem (s : Bool) (l : List Nat) (s' : Bool) (l' : List Nat) (hl : l.length ≤ 536870912) (hl' : l'.length ≤ 536870912) (hlm : Lm l) (hlm' : Lm l') (hy : zv s' l' ≠ 0) :
  Fn Tryz.prog En 152 [zR s l, zR s' l'] (zC (zv s l % zv s' l')) := by
 have C1 := kZe En s l s' l' hl hl' hlm hlm' hy
 refine aZb Tryz.func152 rfl Tryz.ntmps152 rfl ?_
 intro w0 h0
 repeat (first | apply js | apply jb)
 refine jr (jB jj jj jj (jB jj jj jj (jA jj jj jj (jn ?_))))
 repeat (first | apply js | apply jb)
 refine jr (jL jj jj jj (jL jj jj jj (jS (aZa C1 ⟨jj, jj, trivial⟩) (jm jj (jx' jj jj (jx' jj jj (jx' jj jj (jA jj jj jj (jA jj jj jj (jP jj jj jj jj (jP jj jj jj jj (ja jj (jn ?_)))))))))))))
 repeat (first | apply js | apply jb)
 refine jr (jL jj jj jj (jP jj jj jj jj (jn ?_)))
 refine WpD.ret ?_
 exact rtC rfl jj jj
theorem crem (z z' : Int) (h : sz z ≤ 536870912) (h' : sz z' ≤ 536870912) (hz : z' ≠ 0) : Fn Tryz.prog En 152 [zC z, zC z'] (zC (z % z')) := by
 have := frem En (decide (z < 0)) (digs z.natAbs) (decide (z' < 0)) (digs z'.natAbs) h h' (aZk _) (aZk _) (by rw [zv_C]; exact hz)
 rwa [zv_C, zv_C] at this
end
end Go.Proofs.YtdieokoenhncfaaGreatDoor
/- Integers of the program: Normalize, Cmp, Pow. -/
namespace Go.Proofs.YtdieokoenhncfaaGreatDoor
open Go.RowKit Limb
instance cbody104 : CBody Tryz.prog 104 := ⟨⟨_, Tryz.func104, rfl, by rfl⟩⟩
instance cbody89 : CBody Tryz.prog 89 := ⟨⟨_, Tryz.func89, rfl, by rfl⟩⟩
instance cbody56 : CBody Tryz.prog 56 := ⟨⟨_, Tryz.func56, rfl, by rfl⟩⟩
def cmpZ (X Y : Int) : Int := if X < Y then -1 else if Y < X then 1 else 0
theorem cmpZ_bd (X Y : Int) : -1 ≤ cmpZ X Y ∧ cmpZ X Y ≤ 1 := by unfold cmpZ; split <;> (try split) <;> omega
theorem mZt {X Y : Int} (h : sg3 X < sg3 Y) : X < Y := by
 unfold sg3 at h
 split at h <;> split at h <;> (try split at h) <;> (try split at h) <;> omega
theorem cmp_sg {s s' : Bool} {x y : Nat} (h : sg3 (sgnZ s x) = sg3 (sgnZ s' y)) : sg3 (sgnZ s x) * (if x < y then -1 else if y < x then 1 else 0) = cmpZ (sgnZ s x) (sgnZ s' y) := by
 have hX : sgnZ s x = x ∨ sgnZ s x = -(x : Int) := by unfold sgnZ; split <;> simp
 have hY : sgnZ s' y = y ∨ sgnZ s' y = -(y : Int) := by unfold sgnZ; split <;> simp
 generalize sgnZ s x = X at *
 generalize sgnZ s' y = Y at *
 unfold cmpZ
 rcases Int.lt_trichotomy X 0 with hx | hx | hx
 ·have e : sg3 X = -1 := by unfold sg3; rw [if_neg (by omega), if_pos hx]
  have hy : Y < 0 := by
   rw [e] at h; unfold sg3 at h
   split at h
   ·omega
   ·split at h <;> omega
  rw [e]
  repeat' split
  all_goals omega
 ·have e : sg3 X = 0 := by unfold sg3; rw [if_pos hx]
  have hy : Y = 0 := by
   rw [e] at h; unfold sg3 at h
   split at h
   ·assumption
   ·split at h <;> omega
  rw [e, hx, hy, Int.zero_mul]; rfl
 ·have e : sg3 X = 1 := by unfold sg3; rw [if_neg (by omega), if_neg (by omega)]
  have hy : 0 < Y := by
   rw [e] at h; unfold sg3 at h
   split at h
   ·omega
   ·split at h <;> omega
  rw [e]
  repeat' split
  all_goals omega
section
variable (En : Ev)
theorem iZ3 (s : Bool) (l : List Nat) (hl : Lm l) (hlen : l.length ≤ 274877906944) : Fn Tryz.prog En 104 [zR s l] (zC (zv s l)) := by
 have C1 := bZL En l hl (by omega)
 have D1 := aZZ hlen hl
 unfold zv
 generalize val l = x at *
 have C2 := hZ5 En (digs x) (aZk _) (by omega)
 have C3 := bZN En s x
 refine aZb Tryz.func104 rfl Tryz.ntmps104 rfl ?_
 intro w0 h0
 repeat (first | apply js | apply jb)
 refine jr (jB jj jj jj (jA jj jj jj (jn ?_)))
 repeat (first | apply js | apply jb)
 refine jr (jF jj jj (jl jj jj jj (jF jj jj (jl jj jj jj (jS (aZa C1 ⟨jj, trivial⟩) (jS (aZa C2 ⟨jj, trivial⟩) (jS (aZa C3 ⟨jj, jj, trivial⟩) (jP jj jj jj jj (jn ?_)))))))))
 repeat (first | apply js | apply jb)
 refine WpD.ret ?_
 exact rtC rfl jj jj
set_option maxHeartbeats 1000000 in
theorem icmp (s : Bool) (l : List Nat) (s' : Bool) (l' : List Nat) (hl : Lm l) (hl' : Lm l') (hlen : l.length ≤ 274877906944) (hlen' : l'.length ≤ 274877906944) :
  Fn Tryz.prog En 89 [zR s l, zR s' l'] (ex (.int .i64 (cmpZ (zv s l) (zv s' l')))) := by
 have C1 := jZQ En s l hl (by omega)
 have C2 := jZQ En s' l' hl' (by omega)
 have C3 := bZL En l hl (by omega)
 have C4 := bZL En l' hl' (by omega)
 have D1 := aZZ hlen hl
 unfold zv at *
 generalize val l = x at *
 generalize val l' = y at *
 have C5 := cZC En (digs x) (digs y) (by omega) (aZk _) (aZk _)
 rw [bZ6] at C5
 by_cases h1 : sg3 (sgnZ s x) < sg3 (sgnZ s' y)
 ·have b1 : decide (sg3 (sgnZ s x) < sg3 (sgnZ s' y)) = true := decide_eq_true h1
  rw [show cmpZ (sgnZ s x) (sgnZ s' y) = -1 by unfold cmpZ; rw [if_pos (mZt h1)]]
  refine aZb Tryz.func89 rfl Tryz.ntmps89 rfl ?_
  intro w0 h0
  repeat (first | apply js | apply jb)
  refine jr (jB jj jj jj (jB jj jj jj (ja jj (jn ?_))))
  repeat (first | apply js | apply jb)
  refine jr (jL jj jj jj (jS (aZa C1 ⟨jj, trivial⟩) (jL jj jj jj (jS (aZa C2 ⟨jj, trivial⟩) (ja jj (ja jj (jn ?_)))))))
  repeat (first | apply js | apply jb)
  refine jr (jm jj (jm jj (jS (aZd jj jj (fun w => aZw w _ _ _ _ _ _) (aZm b1)) (ja jj (jn ?_)))))
  repeat (first | apply js | apply jb)
  refine WpD.condT rfl ?_
  repeat (first | apply js | apply jb)
  refine jr (ja jj (jn ?_))
  repeat (first | apply js | apply jb)
  refine WpD.ret ?_
  exact rtT rfl jj
 ·have b1 : decide (sg3 (sgnZ s x) < sg3 (sgnZ s' y)) = false := decide_eq_false h1
  by_cases h2 : sg3 (sgnZ s x) > sg3 (sgnZ s' y)
  ·have b2 : decide (sg3 (sgnZ s x) > sg3 (sgnZ s' y)) = true := decide_eq_true h2
   have h3 := mZt h2
   rw [show cmpZ (sgnZ s x) (sgnZ s' y) = 1 by unfold cmpZ; rw [if_neg (by omega), if_pos h3]]
   refine aZb Tryz.func89 rfl Tryz.ntmps89 rfl ?_
   intro w0 h0
   repeat (first | apply js | apply jb)
   refine jr (jB jj jj jj (jB jj jj jj (ja jj (jn ?_))))
   repeat (first | apply js | apply jb)
   refine jr (jL jj jj jj (jS (aZa C1 ⟨jj, trivial⟩) (jL jj jj jj (jS (aZa C2 ⟨jj, trivial⟩) (ja jj (ja jj (jn ?_)))))))
   repeat (first | apply js | apply jb)
   refine jr (jm jj (jm jj (jS (aZd jj jj (fun w => aZw w _ _ _ _ _ _) (aZm b1)) (ja jj (jn ?_)))))
   repeat (first | apply js | apply jb)
   refine WpD.condF rfl ?_
   repeat (first | apply js | apply jb)
   refine jr (jm jj (jm jj (jS (aZd jj jj (fun w => aZM w _ _ _ _ _ _) (aZm b2)) (ja jj (jn ?_)))))
   repeat (first | apply js | apply jb)
   refine WpD.condT rfl ?_
   repeat (first | apply js | apply jb)
   refine jr (ja jj (jn ?_))
   repeat (first | apply js | apply jb)
   refine WpD.ret ?_
   exact rtT rfl jj
  ·have b2 : decide (sg3 (sgnZ s x) > sg3 (sgnZ s' y)) = false := decide_eq_false h2
   have e8 : IntKind.i64.wrap (sg3 (sgnZ s x) * (if x < y then -1 else if y < x then 1 else 0)) = cmpZ (sgnZ s x) (sgnZ s' y) := by
    rw [cmp_sg (s' := s') (y := y) (by omega)]
    have := cmpZ_bd (sgnZ s x) (sgnZ s' y)
    exact w64 (by omega) (by omega)
   refine aZb Tryz.func89 rfl Tryz.ntmps89 rfl ?_
   intro w0 h0
   repeat (first | apply js | apply jb)
   refine jr (jB jj jj jj (jB jj jj jj (ja jj (jn ?_))))
   repeat (first | apply js | apply jb)
   refine jr (jL jj jj jj (jS (aZa C1 ⟨jj, trivial⟩) (jL jj jj jj (jS (aZa C2 ⟨jj, trivial⟩) (ja jj (ja jj (jn ?_)))))))
   repeat (first | apply js | apply jb)
   refine jr (jm jj (jm jj (jS (aZd jj jj (fun w => aZw w _ _ _ _ _ _) (aZm b1)) (ja jj (jn ?_)))))
   repeat (first | apply js | apply jb)
   refine WpD.condF rfl ?_
   repeat (first | apply js | apply jb)
   refine jr (jm jj (jm jj (jS (aZd jj jj (fun w => aZM w _ _ _ _ _ _) (aZm b2)) (ja jj (jn ?_)))))
   repeat (first | apply js | apply jb)
   refine WpD.condF rfl ?_
   repeat (first | apply js | apply jb)
   refine WpD.skip ?_
   repeat (first | apply js | apply jb)
   refine jr (jm jj (jF jj jj (jl jj jj jj (jS (aZa C3 ⟨jj, trivial⟩) (jF jj jj (jl jj jj jj (jS (aZa C4 ⟨jj, trivial⟩) (jS (aZa C5 ⟨jj, jj, trivial⟩) (jS (bMu jj jj e8) (ja jj (jn ?_)))))))))))
   repeat (first | apply js | apply jb)
   refine WpD.ret ?_
   exact rtT rfl jj
end
def bitv : Nat → Nat
 | 0 => 0
 | j + 1 => 2 ^ j
theorem mZd : ∀ n : Fin 65, ∀ i : Fin 7, (IntKind.i64.wrap ((BitVec.ofInt IntKind.i64.bits ((n.1 : Nat) : Int) &&& BitVec.ofInt IntKind.i64.bits ((bitv (i.1 + 1) : Nat) : Int)).toNat) != 0) = decide (n.1 / 2 ^ i.1 % 2 = 1) := by decide +kernel
theorem and_bit {n i : Nat} (hn : n ≤ 64) (hi : i < 7) : (IntKind.i64.wrap ((BitVec.ofInt IntKind.i64.bits ((n : Nat) : Int) &&& BitVec.ofInt IntKind.i64.bits ((bitv (i + 1) : Nat) : Int)).toNat) != 0) = decide (n / 2 ^ i % 2 = 1) := mZd ⟨n, by omega⟩ ⟨i, hi⟩
theorem jZU : ∀ i : Fin 7, IntKind.i64.wrap (((bitv (i.1 + 1) : Nat) : Int).tdiv 2) = ((bitv i.1 : Nat) : Int) := by decide +kernel
theorem lZq {i : Nat} (hi : i < 7) : IntKind.i64.wrap (((bitv (i + 1) : Nat) : Int).tdiv 2) = ((bitv i : Nat) : Int) := jZU ⟨i, hi⟩
theorem pow_len {x k m : Nat} (h : x < B ^ k) (hk : k ≤ 1073741824) (hm : m ≤ 64) : (digs (x ^ m)).length ≤ 274877906944 := by
 refine Nat.le_trans (aZ7 (k := k * m + 1) ?_) ?_
 ·refine Nat.lt_of_le_of_lt (Nat.pow_le_pow_left (Nat.le_of_lt h) m) ?_
  rw [← Nat.pow_mul]
  exact Nat.pow_lt_pow_right (by rw [aZ0]; omega) (by omega)
 ·have : k * m ≤ 1073741824 * 64 := Nat.mul_le_mul hk hm
  omega
section
variable (En : Ev)
set_option maxHeartbeats 1000000 in
theorem ipow (s : Bool) (l : List Nat) (n : Nat) (hl : Lm l) (hlen : l.length ≤ 1073741824) (hn : n ≤ 64) :
  Fn Tryz.prog En 56 [zR s l, ex (.int .i64 (n : Int))] (tupP [zC (zv s l ^ n), ex (.bool true)]) := by
 have C1 := mZC En 1 (by omega) (by omega)
 have b1 : decide ((n : Int) < 0) = false := decide_eq_false (by omega)
 have b2 : decide ((n : Int) > 64) = false := decide_eq_false (by omega)
 have hlt := bZp hl
 have sp : ∀ m, m ≤ 64 → (digs (zv s l ^ m).natAbs).length ≤ 274877906944 := fun m hm => by
  rw [Int.natAbs_pow, gZW]; exact pow_len hlt hlen hm
 generalize hX : zv s l = X at *
 refine aZb Tryz.func56 rfl Tryz.ntmps56 rfl ?_
 intro w0 h0
 repeat (first | apply js | apply jb)
 refine jr (jB jj jj jj (jA jj jj jj (ja jj (jn ?_))))
 repeat (first | apply js | apply jb)
 refine jr (jm jj (jS (aZd jj jj (fun w => aZw w _ _ _ _ _ _) (aZm b1)) (jm jj ?_)))
 first | refine jgm jj ?_ | refine jk ?_
 first | refine jg (aZd jj jj (fun w => aZM w _ _ _ _ _ _) (aZm b2)) ?_ | refine jk ?_
 first | refine jq jj jj ?_ | refine jQ jj jj ?_
 refine jn ?_
 repeat (first | apply js | apply jb)
 refine WpD.condF rfl ?_
 repeat (first | apply js | apply jb)
 refine WpD.skip ?_
 repeat (first | apply js | apply jb)
 refine jr (jS (aZa C1 ⟨jj, trivial⟩) (jA jj jj jj (jP jj jj jj jj (jn ?_))))
 repeat (first | apply js | apply jb)
 refine jr (ja jj (jn ?_))
 repeat (first | apply js | apply jb)
 refine WpD.loop (α := {j : Nat // j ≤ 7}) (fun j => ⟨[(1, .one (ex (.int .i64 (n : Int)))), (2, .ptr 2 0), (4, .ptr 4 0), (6, .ptr 6 0), (7, .one (ex (.int .i64 ((bitv j.1 : Nat) : Int))))], [(2, [ex (.bool s), mag l]), (4, [ex (.bool false), ex (.slice none 0 0)]), (6, dZ8 (X ^ (n / 2 ^ j.1)))]⟩) (fun j => j.1) ⟨7, Nat.le_refl _⟩ ?_ ?_
 ·have e : n / 2 ^ 7 = 0 := Nat.div_eq_of_lt (by omega)
  dsimp only
  rw [e, Int.pow_zero]
  refine Sub.mk ?_ ?_ <;> repeat (first | exact trivial | refine jV jj ?_ | refine jy jj ?_ | refine jw jj (js0 jj) ?_)
 ·rintro ⟨j, hj⟩
  dsimp only
  cases j with
  | zero =>
   have b3 : decide (((bitv 0 : Nat) : Int) > 0) = false := by decide
   rw [Nat.pow_zero, Nat.div_one]
   repeat (first | apply js | apply jb)
   refine jr (jm jj (jS (aZd jj jj (fun w => aZM w _ _ _ _ _ _) (aZm b3)) (jn ?_)))
   repeat (first | apply js | apply jb)
   refine WpD.condF rfl ?_
   repeat (first | apply js | apply jb)
   refine WpD.exit ?_
   repeat (first | apply js | apply jb)
   refine jr (jL jj jj jj (jP jj jj jj jj (ja jj (jn ?_))))
   repeat (first | apply js | apply jb)
   refine WpD.ret ?_
   exact rtD rfl jj jj jj
  | succ j =>
   have b3 : decide (((bitv (j + 1) : Nat) : Int) > 0) = true := decide_eq_true (by show (((2 ^ j : Nat)) : Int) > 0; have := Nat.two_pow_pos j; omega)
   have e0 : n / 2 ^ (j + 1) = n / 2 ^ j / 2 := by rw [Nat.pow_succ, Nat.div_div_eq_div_mul]
   have hN : n / 2 ^ j ≤ 64 := Nat.le_trans (Nat.div_le_self _ _) hn
   have ab := and_bit hn (i := j) (by omega)
   have hb := lZq (i := j) (by omega)
   rw [e0]
   generalize hNe : n / 2 ^ j = N at *
   have C2 := imul En (decide (X ^ (N / 2) < 0)) (digs (X ^ (N / 2)).natAbs) (decide (X ^ (N / 2) < 0)) (digs (X ^ (N / 2)).natAbs) (aZk _) (aZk _) (sp _ (by omega)) (sp _ (by omega))
   rw [zv_C, ← Int.pow_add] at C2
   have C3 := imul En (decide (X ^ (N / 2 + N / 2) < 0)) (digs (X ^ (N / 2 + N / 2)).natAbs) s l (aZk _) hl (sp _ (by omega)) (by omega)
   rw [zv_C, hX, ← Int.pow_succ] at C3
   by_cases hbit : N % 2 = 1
   ·rw [decide_eq_true hbit] at ab
    have eN : (N / 2 + N / 2).succ = N := by omega
    rw [eN] at C3
    repeat (first | apply js | apply jb)
    refine jr (jm jj (jS (aZd jj jj (fun w => aZM w _ _ _ _ _ _) (aZm b3)) (jn ?_)))
    repeat (first | apply js | apply jb)
    refine WpD.condT rfl ?_
    repeat (first | apply js | apply jb)
    refine WpD.skip ?_
    repeat (first | apply js | apply jb)
    refine jr (jL jj jj jj (jL jj jj jj (jS (aZa C2 ⟨jj, jj, trivial⟩) (jP jj jj jj jj (jn ?_)))))
    repeat (first | apply js | apply jb)
    refine jr (jm jj (jm jj (jS (aZu jj jj (fun w => dZJ w _ _ _ _ _ _)) (jS (aZd jj jj (fun w => bZs w _ _ _ _ _ _) (aZm ab)) (jn ?_)))))
    repeat (first | apply js | apply jb)
    refine WpD.condT rfl ?_
    repeat (first | apply js | apply jb)
    refine jr (jL jj jj jj (jL jj jj jj (jS (aZa C3 ⟨jj, jj, trivial⟩) (jP jj jj jj jj (jn ?_)))))
    repeat (first | apply js | apply jb)
    refine jr (jm jj (jS (bQu jj jj hb) (ja jj (jn ?_))))
    refine ⟨⟨j, by omega⟩, ?_, Nat.lt_succ_self j⟩
    dsimp only
    rw [hNe]
    refine Sub.mk ?_ ?_ <;> repeat (first | exact trivial | refine jV jj ?_ | refine jy jj ?_ | refine jw jj (js0 jj) ?_)
   ·rw [decide_eq_false hbit] at ab
    have eN : N / 2 + N / 2 = N := by omega
    rw [eN] at C2
    repeat (first | apply js | apply jb)
    refine jr (jm jj (jS (aZd jj jj (fun w => aZM w _ _ _ _ _ _) (aZm b3)) (jn ?_)))
    repeat (first | apply js | apply jb)
    refine WpD.condT rfl ?_
    repeat (first | apply js | apply jb)
    refine WpD.skip ?_
    repeat (first | apply js | apply jb)
    refine jr (jL jj jj jj (jL jj jj jj (jS (aZa C2 ⟨jj, jj, trivial⟩) (jP jj jj jj jj (jn ?_)))))
    repeat (first | apply js | apply jb)
    refine jr (jm jj (jm jj (jS (aZu jj jj (fun w => dZJ w _ _ _ _ _ _)) (jS (aZd jj jj (fun w => bZs w _ _ _ _ _ _) (aZm ab)) (jn ?_)))))
    repeat (first | apply js | apply jb)
    refine WpD.condF rfl ?_
    repeat (first | apply js | apply jb)
    refine WpD.skip ?_
    repeat (first | apply js | apply jb)
    refine jr (jm jj (jS (bQu jj jj hb) (ja jj (jn ?_))))
    refine ⟨⟨j, by omega⟩, ?_, Nat.lt_succ_self j⟩
    dsimp only
    rw [hNe]
    refine Sub.mk ?_ ?_ <;> repeat (first | exact trivial | refine jV jj ?_ | refine jy jj ?_ | refine jw jj (js0 jj) ?_)
end
end Go.Proofs.YtdieokoenhncfaaGreatDoor
/- Rational numbers: sizes, lowest terms. Plain. -/
namespace Go.Proofs.YtdieokoenhncfaaGreatDoor
open Go.RowKit Limb
def zl (z : Int) : Nat := (digs z.natAbs).length
theorem bZw (a b : Int) : zl (a * b) ≤ zl a + zl b := by unfold zl; rw [Int.natAbs_mul]; exact lZ7 _ _
theorem dZS {a b : Int} (h : a.natAbs ≤ b.natAbs) : zl a ≤ zl b := aZG h
theorem iZG (a b : Int) : zl (a + b) ≤ max (zl a) (zl b) + 1 := Nat.le_trans (aZG (Int.natAbs_add_le a b)) (lZ9 _ _)
theorem iZF (a : Int) : zl (-a) = zl a := by unfold zl; rw [Int.natAbs_neg]
theorem cZl {z : Int} (h1 : -18446744073709551616 < z) (h2 : z < 18446744073709551616) : zl z ≤ 2 := aZ7 (by rw [aZ0]; omega)
def Sz (b : Nat) (r : Rat) : Prop := zl r.num ≤ b ∧ zl (r.den : Int) ≤ b
theorem Sz.mono {a b : Nat} {r : Rat} (h : Sz a r) (hab : a ≤ b) : Sz b r := ⟨Nat.le_trans h.1 hab, Nat.le_trans h.2 hab⟩
theorem cZH (a b : Int) (h : b ∣ a) : (a / b).natAbs ≤ a.natAbs := by
 obtain ⟨c, rfl⟩ := h
 by_cases hb : b = 0
 ·subst hb; simp
 ·rw [Int.mul_ediv_cancel_left _ hb, Int.natAbs_mul]
  exact Nat.le_mul_of_pos_left _ (Int.natAbs_pos.2 hb)
def gd (n d : Int) : Int := if d < 0 then -((Nat.gcd n.natAbs d.natAbs : Nat) : Int) else ((Nat.gcd n.natAbs d.natAbs : Nat) : Int)
theorem gd_ne {n d : Int} (hd : d ≠ 0) : gd n d ≠ 0 := by
 have : 0 < Nat.gcd n.natAbs d.natAbs := Nat.gcd_pos_of_pos_right _ (Int.natAbs_pos.2 hd)
 unfold gd; split <;> omega
theorem hZJ (n d : Int) : gd n d ∣ n ∧ gd n d ∣ d := by
 have h1 : ((Nat.gcd n.natAbs d.natAbs : Nat) : Int) ∣ n := Int.dvd_natAbs.1 (Int.natCast_dvd_natCast.2 (Nat.gcd_dvd_left _ _))
 have h2 : ((Nat.gcd n.natAbs d.natAbs : Nat) : Int) ∣ d := Int.dvd_natAbs.1 (Int.natCast_dvd_natCast.2 (Nat.gcd_dvd_right _ _))
 unfold gd
 split
 ·exact ⟨Int.neg_dvd.2 h1, Int.neg_dvd.2 h2⟩
 ·exact ⟨h1, h2⟩
theorem jZF (n : Int) {d : Int} (hd : d ≠ 0) : (Rat.divInt n d).num = n / gd n d ∧ ((Rat.divInt n d).den : Int) = d / gd n d := by
 have h1 : ((Nat.gcd n.natAbs d.natAbs : Nat) : Int) ∣ n := Int.dvd_natAbs.1 (Int.natCast_dvd_natCast.2 (Nat.gcd_dvd_left _ _))
 have h2 : ((Nat.gcd n.natAbs d.natAbs : Nat) : Int) ∣ d := Int.dvd_natAbs.1 (Int.natCast_dvd_natCast.2 (Nat.gcd_dvd_right _ _))
 have hg : d.gcd n = Nat.gcd n.natAbs d.natAbs := by rw [Int.gcd_comm]; rfl
 rw [Rat.num_divInt, Rat.den_divInt, if_neg hd, hg]
 unfold gd
 generalize Nat.gcd n.natAbs d.natAbs = g at *
 by_cases h : d < 0
 ·rw [if_pos h, Int.sign_eq_neg_one_of_neg h, Int.neg_mul, Int.one_mul, Int.ediv_neg, Int.ediv_neg, Int.neg_ediv_of_dvd h1]
  refine ⟨rfl, ?_⟩
  rw [← Int.neg_ediv_of_dvd h2, Int.natCast_ediv, Int.ofNat_natAbs_of_nonpos (by omega)]
 ·rw [if_neg h, Int.sign_eq_one_of_pos (by omega), Int.one_mul]
  refine ⟨rfl, ?_⟩
  rw [Int.natCast_ediv, Int.natAbs_of_nonneg (by omega)]
theorem cZa {b : Nat} {n d : Int} (hd : d ≠ 0) (h1 : zl n ≤ b) (h2 : zl d ≤ b) : Sz b (Rat.divInt n d) := by
 obtain ⟨e1, e2⟩ := jZF n hd
 obtain ⟨g1, g2⟩ := hZJ n d
 unfold Sz
 rw [e1, e2]
 exact ⟨Nat.le_trans (dZS (cZH _ _ g1)) h1, Nat.le_trans (dZS (cZH _ _ g2)) h2⟩
theorem szq_int {b : Nat} {n : Int} (h : zl n ≤ b) (hb : 1 ≤ b) : Sz b (n : Rat) := ⟨by rw [Rat.num_intCast]; exact h, by rw [Rat.den_intCast]; exact Nat.le_trans (show zl ((1 : Nat) : Int) ≤ 1 from by decide) hb⟩
theorem eZW (r : Rat) : (r.den : Int) ≠ 0 := by have := r.den_pos; omega
theorem gZ9 (r s : Rat) : r + s = Rat.divInt (r.num * s.den + s.num * r.den) (r.den * s.den) := by
 have := Rat.divInt_add_divInt r.num s.num (eZW r) (eZW s)
 rwa [Rat.num_divInt_den, Rat.num_divInt_den] at this
theorem gZ8 (r s : Rat) : r * s = Rat.divInt (r.num * s.num) (r.den * s.den) := by
 have := Rat.divInt_mul_divInt r.num s.num (d₁ := r.den) (d₂ := s.den)
 rwa [Rat.num_divInt_den, Rat.num_divInt_den] at this
theorem iZ6 (r s : Rat) : (r.den : Int) * s.den ≠ 0 := Int.mul_ne_zero (eZW r) (eZW s)
theorem szq_add {a b : Nat} {r s : Rat} (h : Sz a r) (k : Sz b s) : Sz (a + b + 1) (r + s) := by
 rw [gZ9]
 refine cZa (iZ6 r s) ?_ ?_
 ·have := iZG (r.num * s.den) (s.num * r.den)
  have := bZw r.num s.den
  have := bZw s.num r.den
  have := h.1; have := h.2; have := k.1; have := k.2
  omega
 ·have := bZw r.den s.den
  have := h.2; have := k.2
  omega
theorem bZP {a b : Nat} {r s : Rat} (h : Sz a r) (k : Sz b s) : Sz (a + b) (r * s) := by
 rw [gZ8]
 refine cZa (iZ6 r s) ?_ ?_
 ·have := bZw r.num s.num
  have := h.1; have := k.1
  omega
 ·have := bZw r.den s.den
  have := h.2; have := k.2
  omega
theorem gZy {a : Nat} {r : Rat} (h : Sz a r) : Sz a (-r) := ⟨by show zl (-r.num) ≤ a; rw [iZF]; exact h.1, h.2⟩
theorem fZf {a : Nat} {r : Rat} (h : Sz a r) (h1 : 1 ≤ a) : Sz a r⁻¹ := by
 rw [Rat.inv_def]
 by_cases hz : r.num = 0
 ·rw [hz, Rat.divInt_zero]; exact ⟨by show zl 0 ≤ a; exact Nat.le_trans (by decide) h1, by show zl 1 ≤ a; exact Nat.le_trans (by decide) h1⟩
 ·exact cZa hz h.2 h.1
structure RQ where
 s : Bool
 l : List Nat
 t : Bool
 m : List Nat
def RQ.cells (p : RQ) : List Pd := [ex (.bool p.s), mag p.l, ex (.bool p.t), mag p.m]
def RQ.v (p : RQ) : Rat := Rat.divInt (zv p.s p.l) (zv p.t p.m)
structure RQ.ok (p : RQ) : Prop where
 l : Lm p.l
 m : Lm p.m
 ll : p.l.length ≤ 1073741824
 ml : p.m.length ≤ 1073741824
def RQ.of (r : Rat) : RQ := ⟨decide (r.num < 0), digs r.num.natAbs, decide ((r.den : Int) < 0), digs (r.den : Int).natAbs⟩
def qP (p : RQ) : Pd := aggP p.cells
def qC (r : Rat) : Pd := qP (RQ.of r)
def eZb (r : Rat) : List Pd := (RQ.of r).cells
instance (p : RQ) : CPart (qP p) p.cells := ⟨.inr rfl⟩
instance (r : Rat) : CPart (qC r) (eZb r) := ⟨.inr rfl⟩
theorem RQ.of_v (r : Rat) : (RQ.of r).v = r := by
 unfold RQ.v RQ.of
 simp only
 rw [zv_C, zv_C, Rat.num_divInt_den]
theorem RQ.of_ok {r : Rat} (h : Sz 1073741824 r) : (RQ.of r).ok := ⟨aZk _, aZk _, h.1, h.2⟩
theorem eZ3 (s : Bool) {l : List Nat} (hl : Lm l) : zl (zv s l) ≤ l.length := by unfold zl; rw [gZW]; exact aZ7 (bZp hl)
theorem RQ.sz {p : RQ} (h : p.ok) : Sz 1073741824 p.v := by
 unfold RQ.v
 by_cases hz : zv p.t p.m = 0
 ·rw [hz, Rat.divInt_zero]; exact ⟨by show zl 0 ≤ _; exact Nat.le_trans (by decide) (show 1 ≤ 1073741824 by decide), by show zl 1 ≤ _; exact Nat.le_trans (by decide) (show 1 ≤ 1073741824 by decide)⟩
 ·exact cZa hz (Nat.le_trans (eZ3 _ h.l) h.ll) (Nat.le_trans (eZ3 _ h.m) h.ml)
theorem jZr (n : Int) {d : Int} (hd : d ≠ 0) : qC (Rat.divInt n d) = aggP [ex (.bool (decide (n / gd n d < 0))), mag (digs (n / gd n d).natAbs), ex (.bool (decide (d / gd n d < 0))), mag (digs (d / gd n d).natAbs)] := by
 obtain ⟨e1, e2⟩ := jZF n hd
 unfold qC qP RQ.cells RQ.of
 rw [e1, e2]
end Go.Proofs.YtdieokoenhncfaaGreatDoor

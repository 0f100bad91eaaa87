/- Rational numbers: sizes, lowest terms. Plain. -/
import Derived.Test.YtdieokoenhncfaaGreatDoorZa
import Derived.Test.YtdieokoenhncfaaGreatDoorIb
import Derived.Test.YtdieokoenhncfaaGreatDoorQ
set_option maxRecDepth 3000
namespace Go.Proofs.YtdieokoenhncfaaGreatDoor
open Go.RowKit Limb
def zl (z : Int) : Nat := (digs z.natAbs).length
theorem zl_mul (a b : Int) : zl (a * b) ≤ zl a + zl b := by unfold zl; rw [Int.natAbs_mul]; exact digs_mul _ _
theorem zl_mono {a b : Int} (h : a.natAbs ≤ b.natAbs) : zl a ≤ zl b := digs_mono h
theorem zl_add (a b : Int) : zl (a + b) ≤ max (zl a) (zl b) + 1 := Nat.le_trans (digs_mono (Int.natAbs_add_le a b)) (digs_add _ _)
theorem zl_neg (a : Int) : zl (-a) = zl a := by unfold zl; rw [Int.natAbs_neg]
theorem zl_small {z : Int} (h1 : -18446744073709551616 < z) (h2 : z < 18446744073709551616) : zl z ≤ 2 := digs_length_le (by rw [B_def]; omega)
def Sz (b : Nat) (r : Rat) : Prop := zl r.num ≤ b ∧ zl (r.den : Int) ≤ b
theorem Sz.mono {a b : Nat} {r : Rat} (h : Sz a r) (hab : a ≤ b) : Sz b r := ⟨Nat.le_trans h.1 hab, Nat.le_trans h.2 hab⟩
theorem natAbs_ediv_le (a b : Int) (h : b ∣ a) : (a / b).natAbs ≤ a.natAbs := by
 obtain ⟨c, rfl⟩ := h
 by_cases hb : b = 0
 ·subst hb; simp
 ·rw [Int.mul_ediv_cancel_left _ hb, Int.natAbs_mul]
  exact Nat.le_mul_of_pos_left _ (Int.natAbs_pos.2 hb)
def gd (n d : Int) : Int := if d < 0 then -((Nat.gcd n.natAbs d.natAbs : Nat) : Int) else ((Nat.gcd n.natAbs d.natAbs : Nat) : Int)
theorem gd_ne {n d : Int} (hd : d ≠ 0) : gd n d ≠ 0 := by
 have : 0 < Nat.gcd n.natAbs d.natAbs := Nat.gcd_pos_of_pos_right _ (Int.natAbs_pos.2 hd)
 unfold gd; split <;> omega
theorem gd_dvd (n d : Int) : gd n d ∣ n ∧ gd n d ∣ d := by
 have h1 : ((Nat.gcd n.natAbs d.natAbs : Nat) : Int) ∣ n := Int.dvd_natAbs.1 (Int.natCast_dvd_natCast.2 (Nat.gcd_dvd_left _ _))
 have h2 : ((Nat.gcd n.natAbs d.natAbs : Nat) : Int) ∣ d := Int.dvd_natAbs.1 (Int.natCast_dvd_natCast.2 (Nat.gcd_dvd_right _ _))
 unfold gd
 split
 ·exact ⟨Int.neg_dvd.2 h1, Int.neg_dvd.2 h2⟩
 ·exact ⟨h1, h2⟩
theorem low_num (n : Int) {d : Int} (hd : d ≠ 0) : (Rat.divInt n d).num = n / gd n d ∧ ((Rat.divInt n d).den : Int) = d / gd n d := by
 have h1 : ((Nat.gcd n.natAbs d.natAbs : Nat) : Int) ∣ n := Int.dvd_natAbs.1 (Int.natCast_dvd_natCast.2 (Nat.gcd_dvd_left _ _))
 have h2 : ((Nat.gcd n.natAbs d.natAbs : Nat) : Int) ∣ d := Int.dvd_natAbs.1 (Int.natCast_dvd_natCast.2 (Nat.gcd_dvd_right _ _))
 have hg : d.gcd n = Nat.gcd n.natAbs d.natAbs := by rw [Int.gcd_comm]; rfl
 rw [Rat.num_divInt, Rat.den_divInt, if_neg hd, hg]
 unfold gd
 generalize Nat.gcd n.natAbs d.natAbs = g at *
 by_cases h : d < 0
 ·rw [if_pos h, Int.sign_eq_neg_one_of_neg h, Int.neg_mul, Int.one_mul, Int.ediv_neg, Int.ediv_neg, Int.neg_ediv_of_dvd h1]
  refine ⟨rfl, ?_⟩
  rw [← Int.neg_ediv_of_dvd h2, Int.natCast_ediv, Int.ofNat_natAbs_of_nonpos (by omega)]
 ·rw [if_neg h, Int.sign_eq_one_of_pos (by omega), Int.one_mul]
  refine ⟨rfl, ?_⟩
  rw [Int.natCast_ediv, Int.natAbs_of_nonneg (by omega)]
theorem szq_divInt {b : Nat} {n d : Int} (hd : d ≠ 0) (h1 : zl n ≤ b) (h2 : zl d ≤ b) : Sz b (Rat.divInt n d) := by
 obtain ⟨e1, e2⟩ := low_num n hd
 obtain ⟨g1, g2⟩ := gd_dvd n d
 unfold Sz
 rw [e1, e2]
 exact ⟨Nat.le_trans (zl_mono (natAbs_ediv_le _ _ g1)) h1, Nat.le_trans (zl_mono (natAbs_ediv_le _ _ g2)) h2⟩
theorem szq_int {b : Nat} {n : Int} (h : zl n ≤ b) (hb : 1 ≤ b) : Sz b (n : Rat) := ⟨by rw [Rat.num_intCast]; exact h, by rw [Rat.den_intCast]; exact Nat.le_trans (show zl ((1 : Nat) : Int) ≤ 1 from by decide) hb⟩
theorem den_ne (r : Rat) : (r.den : Int) ≠ 0 := by have := r.den_pos; omega
theorem rat_add (r s : Rat) : r + s = Rat.divInt (r.num * s.den + s.num * r.den) (r.den * s.den) := by
 have := Rat.divInt_add_divInt r.num s.num (den_ne r) (den_ne s)
 rwa [Rat.num_divInt_den, Rat.num_divInt_den] at this
theorem rat_mul (r s : Rat) : r * s = Rat.divInt (r.num * s.num) (r.den * s.den) := by
 have := Rat.divInt_mul_divInt r.num s.num (d₁ := r.den) (d₂ := s.den)
 rwa [Rat.num_divInt_den, Rat.num_divInt_den] at this
theorem dd_ne (r s : Rat) : (r.den : Int) * s.den ≠ 0 := Int.mul_ne_zero (den_ne r) (den_ne s)
theorem szq_add {a b : Nat} {r s : Rat} (h : Sz a r) (k : Sz b s) : Sz (a + b + 1) (r + s) := by
 rw [rat_add]
 refine szq_divInt (dd_ne r s) ?_ ?_
 ·have := zl_add (r.num * s.den) (s.num * r.den)
  have := zl_mul r.num s.den
  have := zl_mul s.num r.den
  have := h.1; have := h.2; have := k.1; have := k.2
  omega
 ·have := zl_mul r.den s.den
  have := h.2; have := k.2
  omega
theorem szq_mul {a b : Nat} {r s : Rat} (h : Sz a r) (k : Sz b s) : Sz (a + b) (r * s) := by
 rw [rat_mul]
 refine szq_divInt (dd_ne r s) ?_ ?_
 ·have := zl_mul r.num s.num
  have := h.1; have := k.1
  omega
 ·have := zl_mul r.den s.den
  have := h.2; have := k.2
  omega
theorem szq_neg {a : Nat} {r : Rat} (h : Sz a r) : Sz a (-r) := ⟨by show zl (-r.num) ≤ a; rw [zl_neg]; exact h.1, h.2⟩
theorem szq_inv {a : Nat} {r : Rat} (h : Sz a r) (h1 : 1 ≤ a) : Sz a r⁻¹ := by
 rw [Rat.inv_def]
 by_cases hz : r.num = 0
 ·rw [hz, Rat.divInt_zero]; exact ⟨by show zl 0 ≤ a; exact Nat.le_trans (by decide) h1, by show zl 1 ≤ a; exact Nat.le_trans (by decide) h1⟩
 ·exact szq_divInt hz h.2 h.1
structure RQ where
 s : Bool
 l : List Nat
 t : Bool
 m : List Nat
def RQ.cells (p : RQ) : List Pd := [ex (.bool p.s), mag p.l, ex (.bool p.t), mag p.m]
def RQ.v (p : RQ) : Rat := Rat.divInt (zv p.s p.l) (zv p.t p.m)
structure RQ.ok (p : RQ) : Prop where
 l : Lm p.l
 m : Lm p.m
 ll : p.l.length ≤ 1073741824
 ml : p.m.length ≤ 1073741824
def RQ.of (r : Rat) : RQ := ⟨decide (r.num < 0), digs r.num.natAbs, decide ((r.den : Int) < 0), digs (r.den : Int).natAbs⟩
def qP (p : RQ) : Pd := aggP p.cells
def qC (r : Rat) : Pd := qP (RQ.of r)
def qCells (r : Rat) : List Pd := (RQ.of r).cells
instance (p : RQ) : CPart (qP p) p.cells := ⟨.inr rfl⟩
instance (r : Rat) : CPart (qC r) (qCells r) := ⟨.inr rfl⟩
theorem RQ.of_v (r : Rat) : (RQ.of r).v = r := by
 unfold RQ.v RQ.of
 simp only
 rw [zv_C, zv_C, Rat.num_divInt_den]
theorem RQ.of_ok {r : Rat} (h : Sz 1073741824 r) : (RQ.of r).ok := ⟨lm_digs _, lm_digs _, h.1, h.2⟩
theorem zl_zv (s : Bool) {l : List Nat} (hl : Lm l) : zl (zv s l) ≤ l.length := by unfold zl; rw [zv_abs]; exact digs_length_le (val_lt hl)
theorem RQ.sz {p : RQ} (h : p.ok) : Sz 1073741824 p.v := by
 unfold RQ.v
 by_cases hz : zv p.t p.m = 0
 ·rw [hz, Rat.divInt_zero]; exact ⟨by show zl 0 ≤ _; exact Nat.le_trans (by decide) (show 1 ≤ 1073741824 by decide), by show zl 1 ≤ _; exact Nat.le_trans (by decide) (show 1 ≤ 1073741824 by decide)⟩
 ·exact szq_divInt hz (Nat.le_trans (zl_zv _ h.l) h.ll) (Nat.le_trans (zl_zv _ h.m) h.ml)
theorem qC_low (n : Int) {d : Int} (hd : d ≠ 0) : qC (Rat.divInt n d) = aggP [ex (.bool (decide (n / gd n d < 0))), mag (digs (n / gd n d).natAbs), ex (.bool (decide (d / gd n d < 0))), mag (digs (d / gd n d).natAbs)] := by
 obtain ⟨e1, e2⟩ := low_num n hd
 unfold qC qP RQ.cells RQ.of
 rw [e1, e2]
end Go.Proofs.YtdieokoenhncfaaGreatDoor
/- Integers of the reference: Normalize, Neg, Mul, Quo, Gcd, Pow, Cmp. -/
namespace Go.Proofs.YtdieokoenhncfaaGreatDoor
open Go.RowKit Limb
instance cbody74 : CBody Tryz.prog 74 := ⟨⟨_, Tryz.func74, rfl, by rfl⟩⟩
instance cbody121 : CBody Tryz.prog 121 := ⟨⟨_, Tryz.func121, rfl, by rfl⟩⟩
instance cbody114 : CBody Tryz.prog 114 := ⟨⟨_, Tryz.func114, rfl, by rfl⟩⟩
section
variable (En : Ev)
end
end Go.Proofs.YtdieokoenhncfaaGreatDoor
/- Integers of the program: Neg, Add, Sub, Gcd. -/
namespace Go.Proofs.YtdieokoenhncfaaGreatDoor
open Go.RowKit Limb
instance cbody102 : CBody Tryz.prog 102 := ⟨⟨_, Tryz.func102, rfl, by rfl⟩⟩
instance cbody166 : CBody Tryz.prog 166 := ⟨⟨_, Tryz.func166, rfl, by rfl⟩⟩
instance cbody172 : CBody Tryz.prog 172 := ⟨⟨_, Tryz.func172, rfl, by rfl⟩⟩
instance cbody139 : CBody Tryz.prog 139 := ⟨⟨_, Tryz.func139, rfl, by rfl⟩⟩
instance cbody101 : CBody Tryz.prog 101 := ⟨⟨_, Tryz.func101, rfl, by rfl⟩⟩
theorem sgnZ_add (s : Bool) (x y : Nat) : sgnZ s x + sgnZ s y = sgnZ s (x + y) := by unfold sgnZ; cases s <;> simp <;> omega
theorem sgnZ_sub {s : Bool} {x y : Nat} (h : y ≤ x) : sgnZ s x + sgnZ (!s) y = sgnZ s (x - y) := by unfold sgnZ; cases s <;> simp <;> omega
theorem sgnZ_sub' {s : Bool} {x y : Nat} (h : x ≤ y) : sgnZ s x + sgnZ (!s) y = sgnZ (!s) (y - x) := by unfold sgnZ; cases s <;> simp <;> omega
theorem sgnZ_not (s : Bool) (x : Nat) : sgnZ (!s) x = -sgnZ s x := by unfold sgnZ; cases s <;> simp
section
variable (En : Ev)
theorem iaddS (s : Bool) (x : Nat) (t : Bool) (y : Nat) (hx : (digs x).length ≤ 274877906944) (hy : (digs y).length ≤ 274877906944) :
  Fn Tryz.prog En 172 [ex (.bool s), mag (digs x), ex (.bool t), mag (digs y)] (zC (sgnZ s x + sgnZ t y)) := by
 by_cases hst : s = t
 ·subst hst
  rw [sgnZ_add]
  have C1 := nadd En (digs x) (digs y) (by omega) (by omega) (lm_digs _) (lm_digs _)
  rw [val_digs, val_digs] at C1
  have hb : (s == s) = true := by simp
  refine fn_of_body Tryz.func172 rfl Tryz.ntmps172 rfl ?_
  intro w0 h0
  refine js (jr (jA jj jj jj (jn (js (jb (js (jr (jm jj (jm jj (jS (rt_bin_to jj jj (fun w => run_eqb w CBool.ok _ _ _ _) (vbool hb)) (ja jj (jn (jt jj (js (jr (jm jj (jm jj (jm jj (jS (ru_call C1 ⟨jj, jj, trivial⟩) (jS (ru_call (ibuild En s (x + y)) ⟨jj, jj, trivial⟩) (jP jj jj jj jj (jn (ji ?_)))))))))))))))))))))))
  exact ret1 rfl (.cell rfl rfl CRow.ok rfl) (PLe.refl _)
 ·have ht : t = !s := by cases s <;> cases t <;> simp_all
  subst ht
  have hb : (s == !s) = false := by simp
  have C0 := ncompare En (digs x) (digs y) (by omega) (lm_digs _) (lm_digs _)
  rw [cmpL_digs] at C0
  by_cases h : y ≤ x
  ·rw [sgnZ_sub h]
   have C1 := nsub En (digs x) (digs y) (by omega) (digs_mono h) (lm_digs _) (lm_digs _) (by rw [val_digs, val_digs]; exact h)
   rw [val_digs, val_digs] at C1
   have hc : (if x < y then -1 else if y < x then 1 else 0 : Int) ≥ 0 := by repeat' split <;> omega
   refine fn_of_body Tryz.func172 rfl Tryz.ntmps172 rfl ?_
   intro w0 h0
   refine js (jr (jA jj jj jj (jn (js (jb (js (jr (jm jj (jm jj (jS (rt_bin_to jj jj (fun w => run_eqb w CBool.ok _ _ _ _) (vbool hb)) (ja jj (jn (jf jj (js (jr (jm jj (jm jj (jS (ru_call C0 ⟨jj, jj, trivial⟩) (jS (bHt jj jj) (ja jj (jn (jt jj (js (jr (jm jj (jm jj (jm jj (jS (ru_call C1 ⟨jj, jj, trivial⟩) (jS (ru_call (ibuild En s (x - y)) ⟨jj, jj, trivial⟩) (jP jj jj jj jj (jn (ji ?_))))))))))))))))))))))))))))))))
   exact ret1 rfl (.cell rfl rfl CRow.ok rfl) (PLe.refl _)
  ·rw [sgnZ_sub' (by omega)]
   have C1 := nsub En (digs y) (digs x) (by omega) (digs_mono (by omega)) (lm_digs _) (lm_digs _) (by rw [val_digs, val_digs]; omega)
   rw [val_digs, val_digs] at C1
   have hc : ¬ (if x < y then -1 else if y < x then 1 else 0 : Int) ≥ 0 := by rw [if_pos (by omega)]; omega
   refine fn_of_body Tryz.func172 rfl Tryz.ntmps172 rfl ?_
   intro w0 h0
   refine js (jr (jA jj jj jj (jn (js (jb (js (jr (jm jj (jm jj (jS (rt_bin_to jj jj (fun w => run_eqb w CBool.ok _ _ _ _) (vbool hb)) (ja jj (jn (jf jj (js (jr (jm jj (jm jj (jS (ru_call C0 ⟨jj, jj, trivial⟩) (jS (bHf jj jj) (ja jj (jn (jf jj (jp (js (jr (jm jj (jm jj (jm jj (jS (ru_call C1 ⟨jj, jj, trivial⟩) (jS (ru_call (ibuild En (!s) (y - x)) ⟨jj, jj, trivial⟩) (jP jj jj jj jj (jn (ji ?_)))))))))))))))))))))))))))))))))
   exact ret1 rfl (.cell rfl rfl CRow.ok rfl) (PLe.refl _)
theorem ineg (s : Bool) (l : List Nat) (hl : Lm l) (hlen : l.length ≤ 274877906944) : Fn Tryz.prog En 102 [zR s l] (zC (-(zv s l))) := by
 have C1 := ntrim En l hl (by omega)
 have D1 := digs_lenle hlen hl
 unfold zv
 generalize val l = x at *
 rw [← sgnZ_not]
 refine fn_of_body Tryz.func102 rfl Tryz.ntmps102 rfl ?_
 intro w0 h0
 refine js (jr (jB jj jj jj (jA jj jj jj (jn (js (jr (jF jj jj (jl jj jj jj (jS (bNo jj) (jF jj jj (jl jj jj jj (jS (ru_call C1 ⟨jj, trivial⟩) (jS (ru_call (nclone En (digs x) (lm_digs _) (by omega)) ⟨jj, trivial⟩) (jS (ru_call (ibuild En (!s) x) ⟨jj, jj, trivial⟩) (jP jj jj jj jj (jn (ji ?_)))))))))))))))))
 exact ret1 rfl (.cell rfl rfl CRow.ok rfl) (PLe.refl _)
theorem iadd (s : Bool) (l : List Nat) (s' : Bool) (l' : List Nat) (hl : Lm l) (hl' : Lm l') (hlen : l.length ≤ 274877906944) (hlen' : l'.length ≤ 274877906944) :
  Fn Tryz.prog En 166 [zR s l, zR s' l'] (zC (zv s l + zv s' l')) := by
 have C1 := ntrim En l hl (by omega)
 have C2 := ntrim En l' hl' (by omega)
 have D1 := digs_lenle hlen hl
 have D2 := digs_lenle hlen' hl'
 unfold zv
 refine fn_of_body Tryz.func166 rfl Tryz.ntmps166 rfl ?_
 intro w0 h0
 refine js (jr (jB jj jj jj (jB jj jj jj (jA jj jj jj (jn (js (jr (jF jj jj (jl jj jj jj (jF jj jj (jl jj jj jj (jS (ru_call C1 ⟨jj, trivial⟩) (jF jj jj (jl jj jj jj (jF jj jj (jl jj jj jj (jS (ru_call C2 ⟨jj, trivial⟩) (jS (ru_call (iaddS En s _ s' _ D1 D2) ⟨jj, jj, jj, jj, trivial⟩) (jP jj jj jj jj (jn (ji ?_)))))))))))))))))))))
 exact ret1 rfl (.cell rfl rfl CRow.ok rfl) (PLe.refl _)
theorem gcd_step (u v : Nat) : Nat.gcd v (u % v) = Nat.gcd u v := by rw [Nat.gcd_comm v, ← Nat.gcd_rec, Nat.gcd_comm]
theorem digs0 {v : Nat} : (digs v).length = 0 ↔ v = 0 := by
 constructor
 ·intro h
  by_cases hv : v = 0
  ·exact hv
  ·rw [digs_step hv] at h; simp at h
 ·rintro rfl; rfl
set_option maxHeartbeats 1000000 in
theorem ngcd (x y : Nat) (hx : (digs x).length ≤ 274877906944) (hy : (digs y).length ≤ 274877906944) : Fn Tryz.prog En 139 [mag (digs x), mag (digs y)] (mag (digs (Nat.gcd x y))) := by
 refine fn_of_body Tryz.func139 rfl Tryz.ntmps139 rfl ?_
 intro w0 h0
 refine js (jr (ja jj (jn (js (jb ?_)))))
 refine WpD.loop (α := {p : Nat × Nat // Nat.gcd p.1 p.2 = Nat.gcd x y ∧ (digs p.1).length ≤ 274877906944 ∧ (digs p.2).length ≤ 274877906944}) (fun p => ⟨[(0, .one (mag (digs p.1.1))), (1, .one (mag (digs p.1.2)))], []⟩) (fun p => p.1.2) ⟨(x, y), rfl, hx, hy⟩ ?_ ?_
 ·refine Sub.mk ?_ ?_ <;> repeat (first | exact trivial | refine jv jj ?_ | refine jy jj ?_ | refine jw jj (js0 jj) ?_ | refine ⟨⟨_, jj, PLe.refl _⟩, trivial, ?_⟩)
 rintro ⟨⟨u, v⟩, hg, hu, hv⟩
 dsimp only at hg hu hv ⊢
 have next : v ≠ 0 → ∃ p : {p : Nat × Nat // Nat.gcd p.1 p.2 = Nat.gcd x y ∧ (digs p.1).length ≤ 274877906944 ∧ (digs p.2).length ≤ 274877906944}, p.1 = (v, u % v) ∧ u % v < v := fun hv0 => by
  have hlt := Nat.mod_lt u (Nat.pos_of_ne_zero hv0)
  exact ⟨⟨(v, u % v), by rw [gcd_step]; exact hg, hv, Nat.le_trans (digs_mono (Nat.le_of_lt hlt)) hv⟩, rfl, hlt⟩
 have C4 := fun hv0 : v ≠ 0 => ndiv En u v (by omega) hv0
 unfold DivP at C4
 by_cases h1 : (digs u).length > 2
 ·by_cases h3 : (digs v).length = 0
  ·have hv0 := digs0.1 h3
   subst hv0
   have : u = Nat.gcd x y := by simpa using hg
   rw [← this]
   refine js (js (jr (jm jj (jE jj (jS (bGt jj jj) (jm jj (jk (jk (jk (jq jj jj (jn (jt jj (jp (jb (js (js (jr (jm jj (jE jj (jS (bEt jj jj) (jn (jt jj (js (jr (jm jj (jS (ru_call (nclone En (digs u) (lm_digs _) (by omega)) ⟨jj, trivial⟩) (ja jj (jn (ji ?_)))))))))))))))))))))))))))))
   exact ret1 rfl (.tmp rfl) (PLe.refl _)
  ·have hv0 : v ≠ 0 := fun h => h3 (digs0.2 h)
   obtain ⟨p, hp, hlt⟩ := next hv0
   have C5 := C4 hv0
   refine js (js (jr (jm jj (jE jj (jS (bGt jj jj) (jm jj (jk (jk (jk (jq jj jj (jn (jt jj (jp (jb (js (js (jr (jm jj (jE jj (jS (bEf jj jj) (jn (jf jj (jp (js (jr (jm jj (jm jj (jS (ru_call C5 ⟨jj, jj, trivial⟩) (jm jj (jx' jj jj (jx' jj jj (ja jj (ja jj (jn (jr (jm jj (jm jj (ja jj (ja jj (jn ?_))))))))))))))))))))))))))))))))))))))))
   refine ⟨p, ?_, by rw [hp]; exact hlt⟩
   rw [hp]
   refine Sub.mk ?_ ?_ <;> repeat (first | exact trivial | refine jv jj ?_ | refine jy jj ?_ | refine jw jj (js0 jj) ?_ | refine ⟨⟨_, jj, PLe.refl _⟩, trivial, ?_⟩)
 ·by_cases h2 : (digs v).length > 2
  ·have hv0 : v ≠ 0 := fun h => by rw [digs0.2 h] at h2; omega
   obtain ⟨p, hp, hlt⟩ := next hv0
   have C5 := C4 hv0
   refine js (js (jr (jm jj (jE jj (jS (bGf jj jj) (jm jj (jg (rt_move jj) (jg (ru_len jj CSlice.ok) (jg (bGt jj jj) (jQ jj jj (jn (jt jj (jp (jb (js (js (jr (jm jj (jE jj (jS (bEf jj jj) (jn (jf jj (jp (js (jr (jm jj (jm jj (jS (ru_call C5 ⟨jj, jj, trivial⟩) (jm jj (jx' jj jj (jx' jj jj (ja jj (ja jj (jn (jr (jm jj (jm jj (ja jj (ja jj (jn ?_))))))))))))))))))))))))))))))))))))))))
   refine ⟨p, ?_, by rw [hp]; exact hlt⟩
   rw [hp]
   refine Sub.mk ?_ ?_ <;> repeat (first | exact trivial | refine jv jj ?_ | refine jy jj ?_ | refine jw jj (js0 jj) ?_ | refine ⟨⟨_, jj, PLe.refl _⟩, trivial, ?_⟩)
  ·have W1 := nword En (digs u) (lm_digs _) (by omega)
   have W2 := nword En (digs v) (lm_digs _) (by omega)
   rw [val_digs] at W1 W2
   have hu64 : u < 18446744073709551616 := by have := val_lt (lm_digs u); rw [val_digs] at this; exact Nat.lt_of_lt_of_le this (Nat.le_trans (Nat.pow_le_pow_right B_pos (show _ ≤ 2 by omega)) (by rw [B_def]; decide))
   have hv64 : v < 18446744073709551616 := by have := val_lt (lm_digs v); rw [val_digs] at this; exact Nat.lt_of_lt_of_le this (Nat.le_trans (Nat.pow_le_pow_right B_pos (show _ ≤ 2 by omega)) (by rw [B_def]; decide))
   refine js (js (jr (jm jj (jE jj (jS (bGf jj jj) (jm jj (jg (rt_move jj) (jg (ru_len jj CSlice.ok) (jg (bGf jj jj) (jQ jj jj (jn (jf jj (je (js (jr (jm jj (jS (ru_call W1 ⟨jj, trivial⟩) (jm jj (jS (ru_call W2 ⟨jj, trivial⟩) (ja jj (ja jj (jn (js (jb ?_))))))))))))))))))))))))
   refine WpD.loop (α := {p : Nat × Nat // Nat.gcd p.1 p.2 = Nat.gcd x y ∧ p.1 < 18446744073709551616 ∧ p.2 < 18446744073709551616}) (fun p => ⟨[(7, .one (ex (.int .u64 (p.1.1 : Nat)))), (8, .one (ex (.int .u64 (p.1.2 : Nat))))], []⟩) (fun p => p.1.2) ⟨(u, v), hg, hu64, hv64⟩ ?_ ?_
   ·refine Sub.mk ?_ ?_ <;> repeat (first | exact trivial | refine jv jj ?_ | refine jy jj ?_ | refine jw jj (js0 jj) ?_ | refine ⟨⟨_, jj, PLe.refl _⟩, trivial, ?_⟩)
   rintro ⟨⟨p, q⟩, hpq, hp, hq⟩
   dsimp only at hpq hp hq ⊢
   by_cases hq0 : q = 0
   ·subst hq0
    have e : p = Nat.gcd x y := by simpa using hpq
    have C6 := nfromWord En p hp
    rw [← e]
    refine js (js (jr (jm jj (jS (bNf jj jj) (jn (jf jj (je (js (jr (jm jj (jS (ru_call C6 ⟨jj, trivial⟩) (ja jj (jn (ji ?_))))))))))))))
    exact ret1 rfl (.tmp rfl) (PLe.refl _)
   ·have hlt := Nat.mod_lt p (Nat.pos_of_ne_zero hq0)
    have e8 : ((p : Nat) : Int).tmod (q : Nat) = ((p % q : Nat) : Int) := (Int.ofNat_tmod p q).symm
    have hne : ((q : Nat) : Int) ≠ 0 := by omega
    refine js (js (jr (jm jj (jS (bNt jj jj) (jn (jt jj (jp (jb (jr (jm jj (jm jj (jm jj (jS (bRe jj jj e8) (ja jj (ja jj (jn ?_))))))))))))))))
    refine ⟨⟨(q, p % q), by rw [gcd_step]; exact hpq, hq, Nat.lt_trans hlt hq⟩, ?_, hlt⟩
    refine Sub.mk ?_ ?_ <;> repeat (first | exact trivial | refine jv jj ?_ | refine jy jj ?_ | refine jw jj (js0 jj) ?_ | refine ⟨⟨_, jj, PLe.refl _⟩, trivial, ?_⟩)
theorem igcd (s : Bool) (l : List Nat) (s' : Bool) (l' : List Nat) (hl : Lm l) (hl' : Lm l') (hlen : l.length ≤ 274877906944) (hlen' : l'.length ≤ 274877906944) :
  Fn Tryz.prog En 101 [zR s l, zR s' l'] (zC (Nat.gcd (zv s l).natAbs (zv s' l').natAbs : Nat)) := by
 have C1 := ntrim En l hl (by omega)
 have C2 := ntrim En l' hl' (by omega)
 have D1 := digs_lenle hlen hl
 have D2 := digs_lenle hlen' hl'
 rw [zv_abs, zv_abs]
 have C4 := ibuild En false (Nat.gcd (val l) (val l'))
 rw [show sgnZ false (Nat.gcd (val l) (val l')) = ((Nat.gcd (val l) (val l') : Nat) : Int) from rfl] at C4
 refine fn_of_body Tryz.func101 rfl Tryz.ntmps101 rfl ?_
 intro w0 h0
 refine js (jr (jB jj jj jj (jB jj jj jj (jA jj jj jj (jn (js (jr (jF jj jj (jl jj jj jj (jS (ru_call C1 ⟨jj, trivial⟩) (jF jj jj (jl jj jj jj (jS (ru_call C2 ⟨jj, trivial⟩) (jS (ru_call (ngcd En _ _ D1 D2) ⟨jj, jj, trivial⟩) (jS (ru_call C4 ⟨jj, jj, trivial⟩) (jP jj jj jj jj (jn (ji ?_))))))))))))))))))
 exact ret1 rfl (.cell rfl rfl CRow.ok rfl) (PLe.refl _)
end
end Go.Proofs.YtdieokoenhncfaaGreatDoor

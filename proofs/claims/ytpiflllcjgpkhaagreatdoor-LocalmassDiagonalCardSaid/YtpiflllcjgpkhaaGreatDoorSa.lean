/- Rational numbers of the reference. -/
import Derived.Test.YtpiflllcjgpkhaaGreatDoorZe
import Derived.Test.YtpiflllcjgpkhaaGreatDoorRb
set_option maxRecDepth 3000
namespace Go.Proofs.YtpiflllcjgpkhaaGreatDoor
open Go.RowKit Limb
instance cbody98 : CBody Tryz.prog 98 := ⟨⟨_, Tryz.func98, rfl, by rfl⟩⟩
instance cbody82 : CBody Tryz.prog 82 := ⟨⟨_, Tryz.func82, rfl, by rfl⟩⟩
instance cbody52 : CBody Tryz.prog 52 := ⟨⟨_, Tryz.func52, rfl, by rfl⟩⟩
instance cbody103 : CBody Tryz.prog 103 := ⟨⟨_, Tryz.func103, rfl, by rfl⟩⟩
instance cbody9 : CBody Tryz.prog 9 := ⟨⟨_, Tryz.func9, rfl, by rfl⟩⟩
instance cbody101 : CBody Tryz.prog 101 := ⟨⟨_, Tryz.func101, rfl, by rfl⟩⟩
instance cbody100 : CBody Tryz.prog 100 := ⟨⟨_, Tryz.func100, rfl, by rfl⟩⟩
instance cbody69 : CBody Tryz.prog 69 := ⟨⟨_, Tryz.func69, rfl, by rfl⟩⟩
instance cbody71 : CBody Tryz.prog 71 := ⟨⟨_, Tryz.func71, rfl, by rfl⟩⟩
instance cbody99 : CBody Tryz.prog 99 := ⟨⟨_, Tryz.func99, rfl, by rfl⟩⟩
instance cbody102 : CBody Tryz.prog 102 := ⟨⟨_, Tryz.func102, rfl, by rfl⟩⟩
/-- Fewer limbs, for the reference. -/
structure RQ.okR (p : RQ) : Prop where
  l : Lm p.l
  m : Lm p.m
  ll : p.l.length ≤ 134217728
  ml : p.m.length ≤ 134217728
theorem RQ.of_okR {r : Rat} (h : Sz 134217728 r) : (RQ.of r).okR := ⟨lm_digs _, lm_digs _, h.1, h.2⟩
theorem RQ.okR.ok {p : RQ} (h : p.okR) : p.ok := ⟨h.l, h.m, Nat.le_trans h.ll (by omega), Nat.le_trans h.ml (by omega)⟩
theorem RQ.szR {p : RQ} (h : p.okR) : Sz 134217728 p.v := by
  unfold RQ.v
  by_cases hz : zv p.t p.m = 0
  · rw [hz, Rat.divInt_zero]; exact ⟨by show zl 0 ≤ _; exact Nat.le_trans (by decide) (show 1 ≤ 134217728 by decide), by show zl 1 ≤ _; exact Nat.le_trans (by decide) (show 1 ≤ 134217728 by decide)⟩
  · exact szq_divInt hz (Nat.le_trans (zl_zv _ h.l) h.ll) (Nat.le_trans (zl_zv _ h.m) h.ml)
section
variable (En : Ev)
theorem cneg (a : Int) (ha : zl a ≤ 1099511627776) : Fn Tryz.prog En 123 [zC a] (zC (-a)) := by
  have := zneg En (decide (a < 0)) (digs a.natAbs) ha
  rwa [zv_C] at this
theorem cmul (a b : Int) (ha : zl a ≤ 1073741824) (hb : zl b ≤ 1073741824) : Fn Tryz.prog En 104 [zC a, zC b] (zC (a * b)) := by
  have := zmul En (decide (a < 0)) _ (decide (b < 0)) _ (lm_digs a.natAbs) (lm_digs b.natAbs) ha hb
  rwa [zv_C, zv_C] at this
theorem cquo (a b : Int) (ha : zl a ≤ 536870912) (hb : zl b ≤ 536870912) (h : b ≠ 0) : Fn Tryz.prog En 125 [zC a, zC b] (zC (a / b)) := by
  have := zquo En (decide (a < 0)) _ (decide (b < 0)) _ ha hb (lm_digs a.natAbs) (lm_digs b.natAbs) (by rw [zv_C]; exact h)
  rwa [zv_C, zv_C] at this
theorem cgcdz (a b : Int) (ha : zl a ≤ 536870912) (hb : zl b ≤ 536870912) : Fn Tryz.prog En 124 [zC a, zC b] (zC (Nat.gcd a.natAbs b.natAbs : Nat)) := by
  have := zgcd En (decide (a < 0)) _ (decide (b < 0)) _ (lm_digs a.natAbs) (lm_digs b.natAbs) ha hb
  rwa [zv_C, zv_C] at this
theorem cpow (a : Int) (n : Nat) (ha : zl a ≤ 8388608) (hn : n ≤ 64) : Fn Tryz.prog En 127 [zC a, ex (.int .i64 (n : Int))] (tupP [zC (a ^ n), ex (.bool true)]) := by
  have := zpow En (decide (a < 0)) _ n (lm_digs a.natAbs) ha hn
  rwa [zv_C] at this
theorem divInt_neg2 (n d : Int) : Rat.divInt (-n) (-d) = Rat.divInt n d := Rat.neg_divInt_neg n d
/-- New, of a denominator that is not 0. -/
theorem qnew (s : Bool) (l : List Nat) (s' : Bool) (l' : List Nat) (hl : Lm l) (hl' : Lm l') (hlen : l.length ≤ 536870912) (hlen' : l'.length ≤ 536870912) (hd : zv s' l' ≠ 0) :
    Fn Tryz.prog En 98 [zR s l, zR s' l'] (tupP [qC (Rat.divInt (zv s l) (zv s' l')), ex (.bool true)]) := by
  have C1 := fsign En s' l' (by omega)
  have h0 : sg3 (zv s' l') ≠ 0 := sg3_ne hd
  have z1 := Nat.le_trans (zl_zv s hl) hlen
  have z2 := Nat.le_trans (zl_zv s' hl') hlen'
  by_cases hn : zv s' l' < 0
  · have hs : sg3 (zv s' l') < 0 := by unfold sg3; rw [if_neg hd, if_pos hn]; decide
    rw [← divInt_neg2]
    have C2 := zneg En s l (by omega)
    have C3 := zneg En s' l' (by omega)
    have hd' : -(zv s' l') ≠ 0 := by omega
    rw [← zl_neg] at z1 z2
    generalize -(zv s l) = a at *
    generalize hb : -(zv s' l') = b at *
    have hbp : ¬ b < 0 := by omega
    have hg0 := gd_ne (n := a) hd'
    have e : gd a b = ((Nat.gcd a.natAbs b.natAbs : Nat) : Int) := by unfold gd; rw [if_neg hbp]
    have hgl : zl (gd a b) ≤ 536870912 := Nat.le_trans (zl_mono (Nat.le_of_dvd (Int.natAbs_pos.2 hd') (Int.natAbs_dvd_natAbs.2 (gd_dvd _ _).2))) z2
    have C4 := cgcdz En a b z1 z2
    rw [← e] at C4
    have C5 := cquo En a (gd a b) z1 hgl hg0
    have C6 := cquo En b (gd a b) z2 hgl hg0
    rw [qC_low _ hd']
    refine fn_of_body Tryz.func98 rfl Tryz.ntmps98 rfl ?_
    intro w0 h0
    repeat (first | refine js ?_ | refine jb ?_)
    refine jr ?_
    refine jT (ru_boxR rfl rfl rfl) ?_
    refine jT (ru_boxR rfl rfl rfl) ?_
    refine jT (ru_alloc rfl rfl rfl) ?_
    refine ja rfl ?_
    refine RG.nil (by kernel_rfl) ?_
    repeat (first | refine js ?_ | refine jb ?_)
    refine jr ?_
    refine jS (ru_loadR rfl rfl rfl rfl) ?_
    refine jS (ru_call C1 ⟨rfl, trivial⟩) ?_
    refine jS (rt_bin_to rfl rfl (fun w => run_eqi w _ _ _ _ _ _) (vbool (beqF (by first | assumption | omega)))) ?_
    refine RG.nil (by kernel_rfl) ?_
    repeat (first | refine js ?_ | refine jb ?_)
    refine WpD.condF rfl ?_
    repeat (first | refine js ?_ | refine jb ?_)
    refine WpD.skip ?_
    repeat (first | refine js ?_ | refine jb ?_)
    refine jr ?_
    refine jS (ru_loadR rfl rfl rfl rfl) ?_
    refine jS (ru_call C1 ⟨rfl, trivial⟩) ?_
    refine jS (rt_bin_to rfl rfl (fun w => run_lti w _ _ _ _ _ _) (vbool (decide_eq_true (by first | assumption | omega)))) ?_
    refine RG.nil (by kernel_rfl) ?_
    repeat (first | refine js ?_ | refine jb ?_)
    refine WpD.condT rfl ?_
    repeat (first | refine js ?_ | refine jb ?_)
    refine jr ?_
    refine jS (ru_loadR rfl rfl rfl rfl) ?_
    refine jS (ru_call C2 ⟨rfl, trivial⟩) ?_
    refine jS (ru_loadR rfl rfl rfl rfl) ?_
    refine jS (ru_call C3 ⟨rfl, trivial⟩) ?_
    refine jO (ru_storeR rfl rfl rfl rfl rfl rfl) ?_
    refine jO (ru_storeR rfl rfl rfl rfl rfl rfl) ?_
    refine RG.nil (by kernel_rfl) ?_
    repeat (first | refine js ?_ | refine jb ?_)
    refine jr ?_
    refine jS (ru_loadR rfl rfl rfl rfl) ?_
    refine jS (ru_loadR rfl rfl rfl rfl) ?_
    refine jS (ru_call C4 ⟨rfl, rfl, trivial⟩) ?_
    refine jT (ru_alloc rfl rfl rfl) ?_
    refine jO (ru_storeR rfl rfl rfl rfl rfl rfl) ?_
    refine RG.nil (by kernel_rfl) ?_
    repeat (first | refine js ?_ | refine jb ?_)
    refine jr ?_
    refine jS (ru_loadR rfl rfl rfl rfl) ?_
    refine jS (ru_loadR rfl rfl rfl rfl) ?_
    refine jS (ru_call C5 ⟨rfl, rfl, trivial⟩) ?_
    refine jS (ru_loadR rfl rfl rfl rfl) ?_
    refine jS (ru_loadR rfl rfl rfl rfl) ?_
    refine jS (ru_call C6 ⟨rfl, rfl, trivial⟩) ?_
    refine jS (ru_build (ps := [(_, _), (_, _)]) ⟨rfl, Part.c rfl, rfl, Part.c rfl, trivial⟩ rfl) ?_
    refine jO (ru_storeR rfl rfl rfl rfl rfl rfl) ?_
    refine ja rfl ?_
    refine RG.nil (by kernel_rfl) ?_
    repeat (first | refine js ?_ | refine jb ?_)
    refine WpD.ret ?_
    exact ret2 rfl (.cell rfl rfl CRow.ok rfl) (.tmp rfl) (PLe.refl _)
  · have hs : ¬ sg3 (zv s' l') < 0 := by unfold sg3; rw [if_neg hd, if_neg hn]; decide
    have e : gd (zv s l) (zv s' l') = ((Nat.gcd (zv s l).natAbs (zv s' l').natAbs : Nat) : Int) := by unfold gd; rw [if_neg hn]
    have hg0 := gd_ne (n := zv s l) hd
    have hgl : zl (gd (zv s l) (zv s' l')) ≤ 536870912 := Nat.le_trans (zl_mono (Nat.le_of_dvd (Int.natAbs_pos.2 hd) (Int.natAbs_dvd_natAbs.2 (gd_dvd _ _).2))) z2
    have C4 := zgcd En s l s' l' hl hl' hlen hlen'
    rw [← e] at C4
    have C5 := zquo En s l (decide (gd (zv s l) (zv s' l') < 0)) (digs (gd (zv s l) (zv s' l')).natAbs) hlen hgl hl (lm_digs _) (by rw [zv_C]; exact hg0)
    have C6 := zquo En s' l' (decide (gd (zv s l) (zv s' l') < 0)) (digs (gd (zv s l) (zv s' l')).natAbs) hlen' hgl hl' (lm_digs _) (by rw [zv_C]; exact hg0)
    rw [zv_C] at C5 C6
    rw [qC_low _ hd]
    refine fn_of_body Tryz.func98 rfl Tryz.ntmps98 rfl ?_
    intro w0 h0
    repeat (first | refine js ?_ | refine jb ?_)
    refine jr ?_
    refine jT (ru_boxR rfl rfl rfl) ?_
    refine jT (ru_boxR rfl rfl rfl) ?_
    refine jT (ru_alloc rfl rfl rfl) ?_
    refine ja rfl ?_
    refine RG.nil (by kernel_rfl) ?_
    repeat (first | refine js ?_ | refine jb ?_)
    refine jr ?_
    refine jS (ru_loadR rfl rfl rfl rfl) ?_
    refine jS (ru_call C1 ⟨rfl, trivial⟩) ?_
    refine jS (rt_bin_to rfl rfl (fun w => run_eqi w _ _ _ _ _ _) (vbool (beqF (by first | assumption | omega)))) ?_
    refine RG.nil (by kernel_rfl) ?_
    repeat (first | refine js ?_ | refine jb ?_)
    refine WpD.condF rfl ?_
    repeat (first | refine js ?_ | refine jb ?_)
    refine WpD.skip ?_
    repeat (first | refine js ?_ | refine jb ?_)
    refine jr ?_
    refine jS (ru_loadR rfl rfl rfl rfl) ?_
    refine jS (ru_call C1 ⟨rfl, trivial⟩) ?_
    refine jS (rt_bin_to rfl rfl (fun w => run_lti w _ _ _ _ _ _) (vbool (decide_eq_false (by first | assumption | omega)))) ?_
    refine RG.nil (by kernel_rfl) ?_
    repeat (first | refine js ?_ | refine jb ?_)
    refine WpD.condF rfl ?_
    repeat (first | refine js ?_ | refine jb ?_)
    refine WpD.skip ?_
    repeat (first | refine js ?_ | refine jb ?_)
    refine jr ?_
    refine jS (ru_loadR rfl rfl rfl rfl) ?_
    refine jS (ru_loadR rfl rfl rfl rfl) ?_
    refine jS (ru_call C4 ⟨rfl, rfl, trivial⟩) ?_
    refine jT (ru_alloc rfl rfl rfl) ?_
    refine jO (ru_storeR rfl rfl rfl rfl rfl rfl) ?_
    refine RG.nil (by kernel_rfl) ?_
    repeat (first | refine js ?_ | refine jb ?_)
    refine jr ?_
    refine jS (ru_loadR rfl rfl rfl rfl) ?_
    refine jS (ru_loadR rfl rfl rfl rfl) ?_
    refine jS (ru_call C5 ⟨rfl, rfl, trivial⟩) ?_
    refine jS (ru_loadR rfl rfl rfl rfl) ?_
    refine jS (ru_loadR rfl rfl rfl rfl) ?_
    refine jS (ru_call C6 ⟨rfl, rfl, trivial⟩) ?_
    refine jS (ru_build (ps := [(_, _), (_, _)]) ⟨rfl, Part.c rfl, rfl, Part.c rfl, trivial⟩ rfl) ?_
    refine jO (ru_storeR rfl rfl rfl rfl rfl rfl) ?_
    refine ja rfl ?_
    refine RG.nil (by kernel_rfl) ?_
    repeat (first | refine js ?_ | refine jb ?_)
    refine WpD.ret ?_
    exact ret2 rfl (.cell rfl rfl CRow.ok rfl) (.tmp rfl) (PLe.refl _)
theorem knew (a b : Int) (ha : zl a ≤ 536870912) (hb : zl b ≤ 536870912) (h : b ≠ 0) : Fn Tryz.prog En 98 [zC a, zC b] (tupP [qC (Rat.divInt a b), ex (.bool true)]) := by
  have := qnew En (decide (a < 0)) _ (decide (b < 0)) _ (lm_digs a.natAbs) (lm_digs b.natAbs) ha hb (by rw [zv_C]; exact h)
  rwa [zv_C, zv_C] at this
theorem qC_int (a : Int) : qC (a : Rat) = aggP [ex (.bool (decide (a < 0))), mag (digs a.natAbs), ex (.bool (decide ((1 : Int) < 0))), mag (digs (1 : Int).natAbs)] := by
  unfold qC qP RQ.cells RQ.of
  rw [Rat.num_intCast, Rat.den_intCast]
  rfl
theorem qwhole (a : Int) (ha : zl a ≤ 1099511627776) : Fn Tryz.prog En 82 [zC a] (qC (a : Rat)) := by
  have C1 := znorm En (decide (a < 0)) (digs a.natAbs) ha
  rw [zv_C] at C1
  have C2 := fsmall En 1 (by omega) (by omega)
  rw [qC_int]
  refine fn_of_body Tryz.func82 rfl Tryz.ntmps82 rfl ?_
  intro w0 h0
  repeat (first | refine js ?_ | refine jb ?_)
  refine jr ?_
  refine jT (ru_boxR rfl rfl rfl) ?_
  refine jT (ru_alloc rfl rfl rfl) ?_
  refine RG.nil (by kernel_rfl) ?_
  repeat (first | refine js ?_ | refine jb ?_)
  refine jr ?_
  refine jS (ru_loadR rfl rfl rfl rfl) ?_
  refine jS (ru_call C1 ⟨rfl, trivial⟩) ?_
  refine jS (ru_call C2 ⟨rfl, trivial⟩) ?_
  refine jS (ru_build (ps := [(_, _), (_, _)]) ⟨rfl, Part.c rfl, rfl, Part.c rfl, trivial⟩ rfl) ?_
  refine jO (ru_storeR rfl rfl rfl rfl rfl rfl) ?_
  refine RG.nil (by kernel_rfl) ?_
  repeat (first | refine js ?_ | refine jb ?_)
  refine WpD.ret ?_
  exact ret1 rfl (.cell rfl rfl CRow.ok rfl) (PLe.refl _)
theorem qsmall (a : Int) (h1 : -9223372036854775808 ≤ a) (h2 : a ≤ 9223372036854775807) : Fn Tryz.prog En 52 [ex (.int .i64 a)] (qC (a : Rat)) := by
  have C1 := fsmall En a h1 h2
  have C2 := qwhole En a (Nat.le_trans (zl_small (by omega) (by omega)) (by omega))
  refine fn_of_body Tryz.func52 rfl Tryz.ntmps52 rfl ?_
  intro w0 h0
  repeat (first | refine js ?_ | refine jb ?_)
  refine jr ?_
  refine jT (ru_alloc rfl rfl rfl) ?_
  refine RG.nil (by kernel_rfl) ?_
  repeat (first | refine js ?_ | refine jb ?_)
  refine jr ?_
  refine jm rfl ?_
  refine jS (ru_call C1 ⟨rfl, trivial⟩) ?_
  refine jS (ru_call C2 ⟨rfl, trivial⟩) ?_
  refine jO (ru_storeR rfl rfl rfl rfl rfl rfl) ?_
  refine RG.nil (by kernel_rfl) ?_
  repeat (first | refine js ?_ | refine jb ?_)
  refine WpD.ret ?_
  exact ret1 rfl (.cell rfl rfl CRow.ok rfl) (PLe.refl _)
theorem qnormalize (p : RQ) (hp : p.okR) : Fn Tryz.prog En 103 [qP p] (qC p.v) := by
  have hll := hp.ll
  have hml := hp.ml
  by_cases hz : zv p.t p.m = 0
  · have e : p.v = ((0 : Int) : Rat) := by unfold RQ.v; rw [hz, Rat.divInt_zero]; rfl
    rw [e]
    have C1 := fsign En p.t p.m (by omega)
    have h0 : sg3 (zv p.t p.m) = 0 := by rw [hz]; rfl
    have C2 := qsmall En 0 (by omega) (by omega)
    have C3 : Fn Tryz.prog En 98 [zR p.s p.l, zR p.t p.m] (tupP [aggP [ex (.bool false), ex (.slice none 0 0), ex (.bool false), ex (.slice none 0 0)], ex (.bool false)]) := by
      refine fn_of_body Tryz.func98 rfl Tryz.ntmps98 rfl ?_
      intro w0 h0
      repeat (first | refine js ?_ | refine jb ?_)
      refine jr ?_
      refine jT (ru_boxR rfl rfl rfl) ?_
      refine jT (ru_boxR rfl rfl rfl) ?_
      refine jT (ru_alloc rfl rfl rfl) ?_
      refine ja rfl ?_
      refine RG.nil (by kernel_rfl) ?_
      repeat (first | refine js ?_ | refine jb ?_)
      refine jr ?_
      refine jS (ru_loadR rfl rfl rfl rfl) ?_
      refine jS (ru_call C1 ⟨rfl, trivial⟩) ?_
      refine jS (rt_bin_to rfl rfl (fun w => run_eqi w _ _ _ _ _ _) (vbool (beqT (by first | assumption | omega)))) ?_
      refine RG.nil (by kernel_rfl) ?_
      repeat (first | refine js ?_ | refine jb ?_)
      refine WpD.condT rfl ?_
      repeat (first | refine js ?_ | refine jb ?_)
      refine jr ?_
      refine jS (ru_build (ps := []) trivial rfl) ?_
      refine jO (ru_storeR rfl rfl rfl rfl rfl rfl) ?_
      refine ja rfl ?_
      refine RG.nil (by kernel_rfl) ?_
      repeat (first | refine js ?_ | refine jb ?_)
      refine WpD.ret ?_
      exact ret2 rfl (.cell rfl rfl CRow.ok rfl) (.tmp rfl) (PLe.refl _)
    refine fn_of_body Tryz.func103 rfl Tryz.ntmps103 rfl ?_
    intro w0 h0
    repeat (first | refine js ?_ | refine jb ?_)
    refine jr ?_
    refine jT (ru_boxR rfl rfl rfl) ?_
    refine jT (ru_alloc rfl rfl rfl) ?_
    refine RG.nil (by kernel_rfl) ?_
    repeat (first | refine js ?_ | refine jb ?_)
    refine jr ?_
    refine jS (ru_fieldAddr rfl rfl) ?_
    refine jS (ru_loadR rfl rfl rfl rfl) ?_
    refine jS (ru_fieldAddr rfl rfl) ?_
    refine jS (ru_loadR rfl rfl rfl rfl) ?_
    refine jS (ru_call C3 ⟨rfl, rfl, trivial⟩) ?_
    refine jm rfl ?_
    refine jS (rt_extract rfl rfl) ?_
    refine jS (rt_extract rfl rfl) ?_
    refine jT (ru_alloc rfl rfl rfl) ?_
    refine jO (ru_storeR rfl rfl rfl rfl rfl rfl) ?_
    refine ja rfl ?_
    refine RG.nil (by kernel_rfl) ?_
    repeat (first | refine js ?_ | refine jb ?_)
    refine jr ?_
    refine jm rfl ?_
    refine jS (rt_un rfl (fun w => run_not w _)) ?_
    refine RG.nil (by kernel_rfl) ?_
    repeat (first | refine js ?_ | refine jb ?_)
    refine WpD.condT rfl ?_
    repeat (first | refine js ?_ | refine jb ?_)
    refine jr ?_
    refine jS (ru_call C2 ⟨rfl, trivial⟩) ?_
    refine jO (ru_storeR rfl rfl rfl rfl rfl rfl) ?_
    refine RG.nil (by kernel_rfl) ?_
    repeat (first | refine js ?_ | refine jb ?_)
    refine WpD.ret ?_
    exact ret1 rfl (.cell rfl rfl CRow.ok rfl) (PLe.refl _)
  · have C2 := qnew En p.s p.l p.t p.m hp.l hp.m (by omega) (by omega) hz
    refine fn_of_body Tryz.func103 rfl Tryz.ntmps103 rfl ?_
    intro w0 h0
    repeat (first | refine js ?_ | refine jb ?_)
    refine jr ?_
    refine jT (ru_boxR rfl rfl rfl) ?_
    refine jT (ru_alloc rfl rfl rfl) ?_
    refine RG.nil (by kernel_rfl) ?_
    repeat (first | refine js ?_ | refine jb ?_)
    refine jr ?_
    refine jS (ru_fieldAddr rfl rfl) ?_
    refine jS (ru_loadR rfl rfl rfl rfl) ?_
    refine jS (ru_fieldAddr rfl rfl) ?_
    refine jS (ru_loadR rfl rfl rfl rfl) ?_
    refine jS (ru_call C2 ⟨rfl, rfl, trivial⟩) ?_
    refine jm rfl ?_
    refine jS (rt_extract rfl rfl) ?_
    refine jS (rt_extract rfl rfl) ?_
    refine jT (ru_alloc rfl rfl rfl) ?_
    refine jO (ru_storeR rfl rfl rfl rfl rfl rfl) ?_
    refine ja rfl ?_
    refine RG.nil (by kernel_rfl) ?_
    repeat (first | refine js ?_ | refine jb ?_)
    refine jr ?_
    refine jm rfl ?_
    refine jS (rt_un rfl (fun w => run_not w _)) ?_
    refine RG.nil (by kernel_rfl) ?_
    repeat (first | refine js ?_ | refine jb ?_)
    refine WpD.condF rfl ?_
    repeat (first | refine js ?_ | refine jb ?_)
    refine WpD.skip ?_
    repeat (first | refine js ?_ | refine jb ?_)
    refine jr ?_
    refine jS (ru_loadR rfl rfl rfl rfl) ?_
    refine jO (ru_storeR rfl rfl rfl rfl rfl rfl) ?_
    refine RG.nil (by kernel_rfl) ?_
    repeat (first | refine js ?_ | refine jb ?_)
    refine WpD.ret ?_
    exact ret1 rfl (.cell rfl rfl CRow.ok rfl) (PLe.refl _)
theorem qadd (p q : RQ) (hp : p.okR) (hq : q.okR) : Fn Tryz.prog En 100 [qP p, qP q] (qC (p.v + q.v)) := by
  have hr := RQ.szR hp
  have hs := RQ.szR hq
  have K1 := qnormalize En p hp
  have K2 := qnormalize En q hq
  generalize p.v = r at *
  generalize q.v = s at *
  obtain ⟨r1, r2⟩ := hr
  obtain ⟨s1, s2⟩ := hs
  have A1 := zl_mul r.num s.den
  have A2 := zl_mul s.num r.den
  have A3 := zl_mul r.den s.den
  have A4 := zl_add (r.num * s.den) (s.num * r.den)
  have m1 := cmul En r.num s.den (by omega) (by omega)
  have m2 := cmul En s.num r.den (by omega) (by omega)
  have m3 := cadd En (r.num * s.den) (s.num * r.den) (Nat.le_trans A1 (by omega)) (Nat.le_trans A2 (by omega))
  have m4 := cmul En r.den s.den (by omega) (by omega)
  have F := knew En (r.num * s.den + s.num * r.den) (r.den * s.den) (by omega) (by omega) (dd_ne r s)
  rw [← rat_add] at F
  refine fn_of_body Tryz.func100 rfl Tryz.ntmps100 rfl ?_
  intro w0 h0
  repeat (first | refine js ?_ | refine jb ?_)
  refine jr ?_
  refine jT (ru_boxR rfl rfl rfl) ?_
  refine jT (ru_boxR rfl rfl rfl) ?_
  refine jT (ru_alloc rfl rfl rfl) ?_
  refine RG.nil (by kernel_rfl) ?_
  repeat (first | refine js ?_ | refine jb ?_)
  refine jr ?_
  refine jS (ru_loadR rfl rfl rfl rfl) ?_
  refine jS (ru_call K1 ⟨rfl, trivial⟩) ?_
  refine jS (ru_loadR rfl rfl rfl rfl) ?_
  refine jS (ru_call K2 ⟨rfl, trivial⟩) ?_
  refine jT (ru_alloc rfl rfl rfl) ?_
  refine jT (ru_alloc rfl rfl rfl) ?_
  refine jO (ru_storeR rfl rfl rfl rfl rfl rfl) ?_
  refine jO (ru_storeR rfl rfl rfl rfl rfl rfl) ?_
  refine RG.nil (by kernel_rfl) ?_
  repeat (first | refine js ?_ | refine jb ?_)
  refine jr ?_
  refine jS (ru_fieldAddr rfl rfl) ?_
  refine jS (ru_loadR rfl rfl rfl rfl) ?_
  refine jS (ru_fieldAddr rfl rfl) ?_
  refine jS (ru_loadR rfl rfl rfl rfl) ?_
  refine jS (ru_call m1 ⟨rfl, rfl, trivial⟩) ?_
  refine jS (ru_fieldAddr rfl rfl) ?_
  refine jS (ru_loadR rfl rfl rfl rfl) ?_
  refine jS (ru_fieldAddr rfl rfl) ?_
  refine jS (ru_loadR rfl rfl rfl rfl) ?_
  refine jS (ru_call m2 ⟨rfl, rfl, trivial⟩) ?_
  refine jS (ru_call m3 ⟨rfl, rfl, trivial⟩) ?_
  refine jS (ru_fieldAddr rfl rfl) ?_
  refine jS (ru_loadR rfl rfl rfl rfl) ?_
  refine jS (ru_fieldAddr rfl rfl) ?_
  refine jS (ru_loadR rfl rfl rfl rfl) ?_
  refine jS (ru_call m4 ⟨rfl, rfl, trivial⟩) ?_
  refine jS (ru_call F ⟨rfl, rfl, trivial⟩) ?_
  refine jm rfl ?_
  refine jS (rt_extract rfl rfl) ?_
  refine jS (rt_extract rfl rfl) ?_
  refine jT (ru_alloc rfl rfl rfl) ?_
  refine jO (ru_storeR rfl rfl rfl rfl rfl rfl) ?_
  refine ja rfl ?_
  refine RG.nil (by kernel_rfl) ?_
  repeat (first | refine js ?_ | refine jb ?_)
  refine jr ?_
  refine jS (ru_loadR rfl rfl rfl rfl) ?_
  refine jO (ru_storeR rfl rfl rfl rfl rfl rfl) ?_
  refine RG.nil (by kernel_rfl) ?_
  repeat (first | refine js ?_ | refine jb ?_)
  refine WpD.ret ?_
  exact ret1 rfl (.cell rfl rfl CRow.ok rfl) (PLe.refl _)
theorem qmul (p q : RQ) (hp : p.okR) (hq : q.okR) : Fn Tryz.prog En 71 [qP p, qP q] (qC (p.v * q.v)) := by
  have hr := RQ.szR hp
  have hs := RQ.szR hq
  have K1 := qnormalize En p hp
  have K2 := qnormalize En q hq
  generalize p.v = r at *
  generalize q.v = s at *
  obtain ⟨r1, r2⟩ := hr
  obtain ⟨s1, s2⟩ := hs
  have A1 := zl_mul r.num s.num
  have A3 := zl_mul r.den s.den
  have m1 := cmul En r.num s.num (by omega) (by omega)
  have m4 := cmul En r.den s.den (by omega) (by omega)
  have F := knew En (r.num * s.num) (r.den * s.den) (by omega) (by omega) (dd_ne r s)
  rw [← rat_mul] at F
  refine fn_of_body Tryz.func71 rfl Tryz.ntmps71 rfl ?_
  intro w0 h0
  repeat (first | refine js ?_ | refine jb ?_)
  refine jr ?_
  refine jT (ru_boxR rfl rfl rfl) ?_
  refine jT (ru_boxR rfl rfl rfl) ?_
  refine jT (ru_alloc rfl rfl rfl) ?_
  refine RG.nil (by kernel_rfl) ?_
  repeat (first | refine js ?_ | refine jb ?_)
  refine jr ?_
  refine jS (ru_loadR rfl rfl rfl rfl) ?_
  refine jS (ru_call K1 ⟨rfl, trivial⟩) ?_
  refine jS (ru_loadR rfl rfl rfl rfl) ?_
  refine jS (ru_call K2 ⟨rfl, trivial⟩) ?_
  refine jT (ru_alloc rfl rfl rfl) ?_
  refine jT (ru_alloc rfl rfl rfl) ?_
  refine jO (ru_storeR rfl rfl rfl rfl rfl rfl) ?_
  refine jO (ru_storeR rfl rfl rfl rfl rfl rfl) ?_
  refine RG.nil (by kernel_rfl) ?_
  repeat (first | refine js ?_ | refine jb ?_)
  refine jr ?_
  refine jS (ru_fieldAddr rfl rfl) ?_
  refine jS (ru_loadR rfl rfl rfl rfl) ?_
  refine jS (ru_fieldAddr rfl rfl) ?_
  refine jS (ru_loadR rfl rfl rfl rfl) ?_
  refine jS (ru_call m1 ⟨rfl, rfl, trivial⟩) ?_
  refine jS (ru_fieldAddr rfl rfl) ?_
  refine jS (ru_loadR rfl rfl rfl rfl) ?_
  refine jS (ru_fieldAddr rfl rfl) ?_
  refine jS (ru_loadR rfl rfl rfl rfl) ?_
  refine jS (ru_call m4 ⟨rfl, rfl, trivial⟩) ?_
  refine jS (ru_call F ⟨rfl, rfl, trivial⟩) ?_
  refine jm rfl ?_
  refine jS (rt_extract rfl rfl) ?_
  refine jS (rt_extract rfl rfl) ?_
  refine jT (ru_alloc rfl rfl rfl) ?_
  refine jO (ru_storeR rfl rfl rfl rfl rfl rfl) ?_
  refine ja rfl ?_
  refine RG.nil (by kernel_rfl) ?_
  repeat (first | refine js ?_ | refine jb ?_)
  refine jr ?_
  refine jS (ru_loadR rfl rfl rfl rfl) ?_
  refine jO (ru_storeR rfl rfl rfl rfl rfl rfl) ?_
  refine RG.nil (by kernel_rfl) ?_
  repeat (first | refine js ?_ | refine jb ?_)
  refine WpD.ret ?_
  exact ret1 rfl (.cell rfl rfl CRow.ok rfl) (PLe.refl _)
theorem rat_div {r s : Rat} (h : s ≠ 0) : r / s = Rat.divInt (r.num * s.den) (r.den * s.num) ∧ (r.den : Int) * s.num ≠ 0 := by
  have hn : s.num ≠ 0 := fun h' => h (Rat.num_eq_zero.1 h')
  refine ⟨?_, Int.mul_ne_zero (den_ne r) hn⟩
  rw [Rat.div_def, Rat.inv_def]
  have := Rat.divInt_mul_divInt r.num s.den (d₁ := r.den) (d₂ := s.num)
  rwa [Rat.num_divInt_den] at this
theorem qquo (p q : RQ) (hp : p.okR) (hq : q.okR) (h0 : q.v ≠ 0) : Fn Tryz.prog En 99 [qP p, qP q] (tupP [qC (p.v / q.v), ex (.bool true)]) := by
  have hr := RQ.szR hp
  have hs := RQ.szR hq
  have K1 := qnormalize En p hp
  have K2 := qnormalize En q hq
  generalize p.v = r at *
  generalize q.v = s at *
  obtain ⟨e, hne⟩ := rat_div (r := r) h0
  obtain ⟨r1, r2⟩ := hr
  obtain ⟨s1, s2⟩ := hs
  have A1 := zl_mul r.num s.den
  have A3 := zl_mul r.den s.num
  have m1 := cmul En r.num s.den (by omega) (by omega)
  have m4 := cmul En r.den s.num (by omega) (by omega)
  have F := knew En (r.num * s.den) (r.den * s.num) (by omega) (by omega) hne
  rw [← e] at F
  refine fn_of_body Tryz.func99 rfl Tryz.ntmps99 rfl ?_
  intro w0 h0
  repeat (first | refine js ?_ | refine jb ?_)
  refine jr ?_
  refine jT (ru_boxR rfl rfl rfl) ?_
  refine jT (ru_boxR rfl rfl rfl) ?_
  refine jT (ru_alloc rfl rfl rfl) ?_
  refine ja rfl ?_
  refine RG.nil (by kernel_rfl) ?_
  repeat (first | refine js ?_ | refine jb ?_)
  refine jr ?_
  refine jS (ru_loadR rfl rfl rfl rfl) ?_
  refine jS (ru_call K1 ⟨rfl, trivial⟩) ?_
  refine jS (ru_loadR rfl rfl rfl rfl) ?_
  refine jS (ru_call K2 ⟨rfl, trivial⟩) ?_
  refine jT (ru_alloc rfl rfl rfl) ?_
  refine jT (ru_alloc rfl rfl rfl) ?_
  refine jO (ru_storeR rfl rfl rfl rfl rfl rfl) ?_
  refine jO (ru_storeR rfl rfl rfl rfl rfl rfl) ?_
  refine RG.nil (by kernel_rfl) ?_
  repeat (first | refine js ?_ | refine jb ?_)
  refine jr ?_
  refine jS (ru_fieldAddr rfl rfl) ?_
  refine jS (ru_loadR rfl rfl rfl rfl) ?_
  refine jS (ru_fieldAddr rfl rfl) ?_
  refine jS (ru_loadR rfl rfl rfl rfl) ?_
  refine jS (ru_call m1 ⟨rfl, rfl, trivial⟩) ?_
  refine jS (ru_fieldAddr rfl rfl) ?_
  refine jS (ru_loadR rfl rfl rfl rfl) ?_
  refine jS (ru_fieldAddr rfl rfl) ?_
  refine jS (ru_loadR rfl rfl rfl rfl) ?_
  refine jS (ru_call m4 ⟨rfl, rfl, trivial⟩) ?_
  refine jS (ru_call F ⟨rfl, rfl, trivial⟩) ?_
  refine jS (rt_extract rfl rfl) ?_
  refine jS (rt_extract rfl rfl) ?_
  refine jO (ru_storeR rfl rfl rfl rfl rfl rfl) ?_
  refine ja rfl ?_
  refine RG.nil (by kernel_rfl) ?_
  repeat (first | refine js ?_ | refine jb ?_)
  refine WpD.ret ?_
  exact ret2 rfl (.cell rfl rfl CRow.ok rfl) (.tmp rfl) (PLe.refl _)
theorem qneg (p : RQ) (hp : p.okR) : Fn Tryz.prog En 101 [qP p] (qC (-p.v)) := by
  have hr := RQ.szR hp
  have C1 := qnormalize En p hp
  generalize p.v = r at *
  have C2 := cneg En r.num (Nat.le_trans hr.1 (by omega))
  rw [qC_mk (-r) (a := -r.num) (b := r.den) rfl rfl]
  refine fn_of_body Tryz.func101 rfl Tryz.ntmps101 rfl ?_
  intro w0 h0
  repeat (first | refine js ?_ | refine jb ?_)
  refine jr ?_
  refine jT (ru_boxR rfl rfl rfl) ?_
  refine jT (ru_alloc rfl rfl rfl) ?_
  refine RG.nil (by kernel_rfl) ?_
  repeat (first | refine js ?_ | refine jb ?_)
  refine jr ?_
  refine jS (ru_loadR rfl rfl rfl rfl) ?_
  refine jS (ru_call C1 ⟨rfl, trivial⟩) ?_
  refine jT (ru_alloc rfl rfl rfl) ?_
  refine jO (ru_storeR rfl rfl rfl rfl rfl rfl) ?_
  refine RG.nil (by kernel_rfl) ?_
  repeat (first | refine js ?_ | refine jb ?_)
  refine jr ?_
  refine jS (ru_fieldAddr rfl rfl) ?_
  refine jS (ru_loadR rfl rfl rfl rfl) ?_
  refine jS (ru_call C2 ⟨rfl, trivial⟩) ?_
  refine jS (ru_fieldAddr rfl rfl) ?_
  refine jS (ru_loadR rfl rfl rfl rfl) ?_
  refine jS (ru_build (ps := [(_, _), (_, _)]) ⟨rfl, Part.c rfl, rfl, Part.c rfl, trivial⟩ rfl) ?_
  refine jO (ru_storeR rfl rfl rfl rfl rfl rfl) ?_
  refine RG.nil (by kernel_rfl) ?_
  repeat (first | refine js ?_ | refine jb ?_)
  refine WpD.ret ?_
  exact ret1 rfl (.cell rfl rfl CRow.ok rfl) (PLe.refl _)
theorem qsub (p q : RQ) (hp : p.okR) (hq : q.okR) : Fn Tryz.prog En 69 [qP p, qP q] (qC (p.v - q.v)) := by
  have C1 := qneg En q hq
  have C2 := qadd En p (RQ.of (-q.v)) hp (RQ.of_okR (szq_neg (RQ.szR hq)))
  rw [RQ.of_v, ← Rat.sub_eq_add_neg] at C2
  refine fn_of_body Tryz.func69 rfl Tryz.ntmps69 rfl ?_
  intro w0 h0
  repeat (first | refine js ?_ | refine jb ?_)
  refine jr ?_
  refine jT (ru_boxR rfl rfl rfl) ?_
  refine jT (ru_boxR rfl rfl rfl) ?_
  refine jT (ru_alloc rfl rfl rfl) ?_
  refine RG.nil (by kernel_rfl) ?_
  repeat (first | refine js ?_ | refine jb ?_)
  refine jr ?_
  refine jS (ru_loadR rfl rfl rfl rfl) ?_
  refine jS (ru_loadR rfl rfl rfl rfl) ?_
  refine jS (ru_call C1 ⟨rfl, trivial⟩) ?_
  refine jS (ru_call C2 ⟨rfl, rfl, trivial⟩) ?_
  refine jO (ru_storeR rfl rfl rfl rfl rfl rfl) ?_
  refine RG.nil (by kernel_rfl) ?_
  repeat (first | refine js ?_ | refine jb ?_)
  refine WpD.ret ?_
  exact ret1 rfl (.cell rfl rfl CRow.ok rfl) (PLe.refl _)
theorem qpow (r : Rat) (n : Nat) (hr : Sz 8388608 r) (hn : n ≤ 64) : Fn Tryz.prog En 102 [qC r, ex (.int .i64 (n : Int))] (tupP [qC (r ^ n), ex (.bool true)]) := by
  have K1 := qnormalize En (RQ.of r) (RQ.of_okR (hr.mono (by omega)))
  rw [RQ.of_v] at K1
  have C2 := cpow En r.num n hr.1 hn
  have C3 := cpow En r.den n hr.2 hn
  rw [qC_mk (r ^ n) (a := r.num ^ n) (b := (r.den : Int) ^ n) (Rat.num_pow r n) (by rw [Rat.den_pow]; exact_mod_cast rfl)]
  refine fn_of_body Tryz.func102 rfl Tryz.ntmps102 rfl ?_
  intro w0 h0
  repeat (first | refine js ?_ | refine jb ?_)
  refine jr ?_
  refine jT (ru_boxR rfl rfl rfl) ?_
  refine jT (ru_alloc rfl rfl rfl) ?_
  refine ja rfl ?_
  refine RG.nil (by kernel_rfl) ?_
  repeat (first | refine js ?_ | refine jb ?_)
  refine jr ?_
  refine jm rfl ?_
  refine jS (rt_bin_to rfl rfl (fun w => run_lti w _ _ _ _ _ _) (vbool (decide_eq_false (by first | assumption | omega)))) ?_
  refine jm rfl ?_
  refine RG.S0 (LT.run rfl rfl rfl (rt_move rfl)) ?_
  refine RG.S0 (LT.run rfl rfl rfl (rt_bin_to rfl rfl (fun w => run_gti w _ _ _ _ _ _) (vbool (decide_eq_false (by first | assumption | omega))))) ?_
  refine jS (rt_pick_false rfl rfl) ?_
  refine RG.nil (by kernel_rfl) ?_
  repeat (first | refine js ?_ | refine jb ?_)
  refine WpD.condF rfl ?_
  repeat (first | refine js ?_ | refine jb ?_)
  refine WpD.skip ?_
  repeat (first | refine js ?_ | refine jb ?_)
  refine jr ?_
  refine jS (ru_loadR rfl rfl rfl rfl) ?_
  refine jS (ru_call K1 ⟨rfl, trivial⟩) ?_
  refine jT (ru_alloc rfl rfl rfl) ?_
  refine jO (ru_storeR rfl rfl rfl rfl rfl rfl) ?_
  refine RG.nil (by kernel_rfl) ?_
  repeat (first | refine js ?_ | refine jb ?_)
  refine jr ?_
  refine jm rfl ?_
  refine jS (rt_bin_to rfl rfl (fun w => run_lti w _ _ _ _ _ _) (vbool (decide_eq_false (by first | assumption | omega)))) ?_
  refine RG.nil (by kernel_rfl) ?_
  repeat (first | refine js ?_ | refine jb ?_)
  refine WpD.condF rfl ?_
  repeat (first | refine js ?_ | refine jb ?_)
  refine WpD.skip ?_
  repeat (first | refine js ?_ | refine jb ?_)
  refine jr ?_
  refine jS (ru_fieldAddr rfl rfl) ?_
  refine jS (ru_loadR rfl rfl rfl rfl) ?_
  refine jm rfl ?_
  refine jS (ru_call C2 ⟨rfl, rfl, trivial⟩) ?_
  refine jm rfl ?_
  refine jS (rt_extract rfl rfl) ?_
  refine jS (rt_extract rfl rfl) ?_
  refine jT (ru_alloc rfl rfl rfl) ?_
  refine jO (ru_storeR rfl rfl rfl rfl rfl rfl) ?_
  refine ja rfl ?_
  refine RG.nil (by kernel_rfl) ?_
  repeat (first | refine js ?_ | refine jb ?_)
  refine jr ?_
  refine jS (ru_fieldAddr rfl rfl) ?_
  refine jS (ru_loadR rfl rfl rfl rfl) ?_
  refine jm rfl ?_
  refine jS (ru_call C3 ⟨rfl, rfl, trivial⟩) ?_
  refine jm rfl ?_
  refine jS (rt_extract rfl rfl) ?_
  refine jS (rt_extract rfl rfl) ?_
  refine jT (ru_alloc rfl rfl rfl) ?_
  refine jO (ru_storeR rfl rfl rfl rfl rfl rfl) ?_
  refine ja rfl ?_
  refine RG.nil (by kernel_rfl) ?_
  repeat (first | refine js ?_ | refine jb ?_)
  refine jr ?_
  refine jS (ru_loadR rfl rfl rfl rfl) ?_
  refine jS (ru_loadR rfl rfl rfl rfl) ?_
  refine jS (ru_build (ps := [(_, _), (_, _)]) ⟨rfl, Part.c rfl, rfl, Part.c rfl, trivial⟩ rfl) ?_
  refine jO (ru_storeR rfl rfl rfl rfl rfl rfl) ?_
  refine ja rfl ?_
  refine RG.nil (by kernel_rfl) ?_
  repeat (first | refine js ?_ | refine jb ?_)
  refine WpD.ret ?_
  exact ret2 rfl (.cell rfl rfl CRow.ok rfl) (.tmp rfl) (PLe.refl _)
theorem same_iff (r s : Rat) : decide (r = s) = (decide (r.num = s.num) && decide ((r.den : Int) = s.den)) := by
  rw [← Bool.decide_and]
  congr 1
  apply propext
  constructor
  · rintro rfl; exact ⟨rfl, rfl⟩
  · rintro ⟨h1, h2⟩; exact Rat.ext h1 (by exact_mod_cast h2)
theorem qsame (r s : Rat) (hr : Sz 134217728 r) (hs : Sz 134217728 s) : Fn Tryz.prog En 9 [qC r, qC s] (ex (.bool (decide (r = s)))) := by
  have C1 := fsame En r.num s.num (Nat.le_trans hr.1 (by omega)) (Nat.le_trans hs.1 (by omega))
  have C2 := fsame En r.den s.den (Nat.le_trans hr.2 (by omega)) (Nat.le_trans hs.2 (by omega))
  rw [same_iff]
  cases h : decide (r.num = s.num) with
  | true =>
    rw [h] at C1
    refine fn_of_body Tryz.func9 rfl Tryz.ntmps9 rfl ?_
    intro w0 h0
    repeat (first | refine js ?_ | refine jb ?_)
    refine jr ?_
    refine jT (ru_boxR rfl rfl rfl) ?_
    refine jT (ru_boxR rfl rfl rfl) ?_
    refine ja rfl ?_
    refine RG.nil (by kernel_rfl) ?_
    repeat (first | refine js ?_ | refine jb ?_)
    refine jr ?_
    refine jS (ru_fieldAddr rfl rfl) ?_
    refine jS (ru_loadR rfl rfl rfl rfl) ?_
    refine jS (ru_fieldAddr rfl rfl) ?_
    refine jS (ru_loadR rfl rfl rfl rfl) ?_
    refine jS (ru_call C1 ⟨rfl, rfl, trivial⟩) ?_
    refine jm rfl ?_
    first | refine RG.S0 (LT.run rfl rfl rfl (ru_fieldAddr rfl rfl)) ?_ | refine RG.S0 (LT.skip rfl rfl rfl) ?_
    first | refine RG.S0 (LT.run rfl rfl rfl (ru_loadR rfl rfl rfl rfl)) ?_ | refine RG.S0 (LT.skip rfl rfl rfl) ?_
    first | refine RG.S0 (LT.run rfl rfl rfl (ru_fieldAddr rfl rfl)) ?_ | refine RG.S0 (LT.skip rfl rfl rfl) ?_
    first | refine RG.S0 (LT.run rfl rfl rfl (ru_loadR rfl rfl rfl rfl)) ?_ | refine RG.S0 (LT.skip rfl rfl rfl) ?_
    first | refine RG.S0 (LT.run rfl rfl rfl (ru_call C2 ⟨rfl, rfl, trivial⟩)) ?_ | refine RG.S0 (LT.skip rfl rfl rfl) ?_
    first | refine jS (rt_pick_true rfl rfl) ?_ | refine jS (rt_pick_false rfl rfl) ?_
    refine ja rfl ?_
    refine RG.nil (by kernel_rfl) ?_
    repeat (first | refine js ?_ | refine jb ?_)
    refine WpD.ret ?_
    exact ret1 rfl (.tmp rfl) (PLe.refl _)
  | false =>
    rw [h] at C1
    refine fn_of_body Tryz.func9 rfl Tryz.ntmps9 rfl ?_
    intro w0 h0
    repeat (first | refine js ?_ | refine jb ?_)
    refine jr ?_
    refine jT (ru_boxR rfl rfl rfl) ?_
    refine jT (ru_boxR rfl rfl rfl) ?_
    refine ja rfl ?_
    refine RG.nil (by kernel_rfl) ?_
    repeat (first | refine js ?_ | refine jb ?_)
    refine jr ?_
    refine jS (ru_fieldAddr rfl rfl) ?_
    refine jS (ru_loadR rfl rfl rfl rfl) ?_
    refine jS (ru_fieldAddr rfl rfl) ?_
    refine jS (ru_loadR rfl rfl rfl rfl) ?_
    refine jS (ru_call C1 ⟨rfl, rfl, trivial⟩) ?_
    refine jm rfl ?_
    first | refine RG.S0 (LT.run rfl rfl rfl (ru_fieldAddr rfl rfl)) ?_ | refine RG.S0 (LT.skip rfl rfl rfl) ?_
    first | refine RG.S0 (LT.run rfl rfl rfl (ru_loadR rfl rfl rfl rfl)) ?_ | refine RG.S0 (LT.skip rfl rfl rfl) ?_
    first | refine RG.S0 (LT.run rfl rfl rfl (ru_fieldAddr rfl rfl)) ?_ | refine RG.S0 (LT.skip rfl rfl rfl) ?_
    first | refine RG.S0 (LT.run rfl rfl rfl (ru_loadR rfl rfl rfl rfl)) ?_ | refine RG.S0 (LT.skip rfl rfl rfl) ?_
    first | refine RG.S0 (LT.run rfl rfl rfl (ru_call C2 ⟨rfl, rfl, trivial⟩)) ?_ | refine RG.S0 (LT.skip rfl rfl rfl) ?_
    first | refine jS (rt_pick_true rfl rfl) ?_ | refine jS (rt_pick_false rfl rfl) ?_
    refine ja rfl ?_
    refine RG.nil (by kernel_rfl) ?_
    repeat (first | refine js ?_ | refine jb ?_)
    refine WpD.ret ?_
    exact ret1 rfl (.tmp rfl) (PLe.refl _)
end
end Go.Proofs.YtpiflllcjgpkhaaGreatDoor

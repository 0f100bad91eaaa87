/- Rational numbers of the program: Pow, Cmp, IsWhole. -/
import Derived.Test.YtpiflllcjgpkhaaGreatDoorRa
set_option maxRecDepth 3000
namespace Go.Proofs.YtpiflllcjgpkhaaGreatDoor
open Go.RowKit Limb
theorem divInt_pow (a b : Int) : ∀ n : Nat, Rat.divInt (a ^ n) (b ^ n) = (Rat.divInt a b) ^ n
  | 0 => by simp; rfl
  | n + 1 => by rw [Int.pow_succ, Int.pow_succ, ← Rat.divInt_mul_divInt, divInt_pow a b n, Rat.pow_succ]
theorem zl_pow (a : Int) : ∀ n : Nat, 1 ≤ zl a → zl (a ^ n) ≤ n * zl a + 1
  | 0, _ => by rw [Int.pow_zero]; exact Nat.le_trans (show zl 1 ≤ 1 by decide) (by omega)
  | n + 1, h => by
    rw [Int.pow_succ]
    have h1 := zl_mul (a ^ n) a
    have h2 := zl_pow a n h
    rw [Nat.succ_mul]; omega
theorem zl_pos {a : Int} (h : a ≠ 0) : 1 ≤ zl a := by
  unfold zl
  rw [digs_step (by omega)]
  simp
theorem zl_pow_le {a : Int} {b n : Nat} (h : zl a ≤ b) : zl (a ^ n) ≤ n * b + 1 := by
  by_cases ha : a = 0
  · subst ha
    cases n with
    | zero => rw [Int.pow_zero]; exact Nat.le_trans (show zl 1 ≤ 1 by decide) (by omega)
    | succ n => rw [Int.zero_pow (by omega)]; exact Nat.le_trans (show zl 0 ≤ 0 by decide) (by omega)
  · have := zl_pow a n (zl_pos ha)
    have : n * zl a ≤ n * b := Nat.mul_le_mul_left _ h
    omega
section
variable (En : Ev)
theorem rpow (p : RQ) (n : Nat) (hp : p.ok) (hn : n ≤ 64) : Fn Tryz.prog En 33 [qP p, ex (.int .i64 (n : Int))] (tupP [qC (p.v ^ n), ex (.bool true)]) := by
  have hr := RQ.sz hp
  have C1 := rcanonical En p hp
  generalize p.v = r at *
  have h1 := zl_pow_le (n := n) hr.1
  have h2 := zl_pow_le (n := n) hr.2
  have hm : n * 1073741824 ≤ 64 * 1073741824 := Nat.mul_le_mul_right _ hn
  have C2 := kpow En r.num n hr.1 hn
  have C3 := kpow En r.den n hr.2 hn
  have C4 := klowest En (r.num ^ n) ((r.den : Int) ^ n) (by omega) (by omega) (Int.pow_ne_zero (den_ne r))
  rw [divInt_pow, Rat.num_divInt_den] at C4
  refine fn_of_body Tryz.func33 rfl Tryz.ntmps33 rfl ?_
  intro w0 h0
  repeat (first | refine js ?_ | refine jb ?_)
  refine jr ?_
  refine jT (ru_boxR rfl rfl rfl) ?_
  refine jT (ru_alloc rfl rfl rfl) ?_
  refine ja rfl ?_
  refine RG.nil (by kernel_rfl) ?_
  repeat (first | refine js ?_ | refine jb ?_)
  refine jr ?_
  refine jS (ru_loadR rfl rfl rfl rfl) ?_
  refine jS (ru_call C1 ⟨rfl, trivial⟩) ?_
  refine jT (ru_alloc rfl rfl rfl) ?_
  refine jO (ru_storeR rfl rfl rfl rfl rfl rfl) ?_
  refine RG.nil (by kernel_rfl) ?_
  repeat (first | refine js ?_ | refine jb ?_)
  refine jr ?_
  refine jm rfl ?_
  refine jS (rt_bin_to rfl rfl (fun w => run_lti w _ _ _ _ _ _) (vbool (decide_eq_false (by first | assumption | omega)))) ?_
  refine jm rfl ?_
  refine RG.S0 (LT.run rfl rfl rfl (rt_move rfl)) ?_
  refine RG.S0 (LT.run rfl rfl rfl (rt_bin_to rfl rfl (fun w => run_gti w _ _ _ _ _ _) (vbool (decide_eq_false (by first | assumption | omega))))) ?_
  refine jS (rt_pick_false rfl rfl) ?_
  refine jm rfl ?_
  refine RG.S0 (LT.run rfl rfl rfl (rt_move rfl)) ?_
  refine RG.S0 (LT.run rfl rfl rfl (rt_bin_to rfl rfl (fun w => run_lti w _ _ _ _ _ _) (vbool (decide_eq_false (by first | assumption | omega))))) ?_
  refine RG.S0 (LT.run rfl rfl rfl (rt_move rfl)) ?_
  refine RG.S0 (LT.skip rfl rfl rfl) ?_
  refine RG.S0 (LT.skip rfl rfl rfl) ?_
  refine RG.S0 (LT.skip rfl rfl rfl) ?_
  refine RG.S0 (LT.run rfl rfl rfl (rt_pick_false rfl rfl)) ?_
  refine jS (rt_pick_false rfl rfl) ?_
  refine RG.nil (by kernel_rfl) ?_
  repeat (first | refine js ?_ | refine jb ?_)
  refine WpD.condF rfl ?_
  repeat (first | refine js ?_ | refine jb ?_)
  refine WpD.skip ?_
  repeat (first | refine js ?_ | refine jb ?_)
  refine jr ?_
  refine jS (ru_fieldAddr rfl rfl) ?_
  refine jS (ru_loadR rfl rfl rfl rfl) ?_
  refine jS (ru_fieldAddr rfl rfl) ?_
  refine jS (ru_loadR rfl rfl rfl rfl) ?_
  refine jT (ru_alloc rfl rfl rfl) ?_
  refine jT (ru_alloc rfl rfl rfl) ?_
  refine jO (ru_storeR rfl rfl rfl rfl rfl rfl) ?_
  refine jO (ru_storeR rfl rfl rfl rfl rfl rfl) ?_
  refine RG.nil (by kernel_rfl) ?_
  repeat (first | refine js ?_ | refine jb ?_)
  refine jr ?_
  refine jm rfl ?_
  refine jS (rt_bin_to rfl rfl (fun w => run_lti w _ _ _ _ _ _) (vbool (decide_eq_false (by first | assumption | omega)))) ?_
  refine RG.nil (by kernel_rfl) ?_
  repeat (first | refine js ?_ | refine jb ?_)
  refine WpD.condF rfl ?_
  repeat (first | refine js ?_ | refine jb ?_)
  refine WpD.skip ?_
  repeat (first | refine js ?_ | refine jb ?_)
  refine jr ?_
  refine jS (ru_loadR rfl rfl rfl rfl) ?_
  refine jm rfl ?_
  refine jS (ru_call C2 ⟨rfl, rfl, trivial⟩) ?_
  refine jm rfl ?_
  refine jS (rt_extract rfl rfl) ?_
  refine jS (rt_extract rfl rfl) ?_
  refine jO (ru_storeR rfl rfl rfl rfl rfl rfl) ?_
  refine RG.nil (by kernel_rfl) ?_
  repeat (first | refine js ?_ | refine jb ?_)
  refine jr ?_
  refine jS (ru_loadR rfl rfl rfl rfl) ?_
  refine jm rfl ?_
  refine jS (ru_call C3 ⟨rfl, rfl, trivial⟩) ?_
  refine jm rfl ?_
  refine jS (rt_extract rfl rfl) ?_
  refine jS (rt_extract rfl rfl) ?_
  refine jO (ru_storeR rfl rfl rfl rfl rfl rfl) ?_
  refine RG.nil (by kernel_rfl) ?_
  repeat (first | refine js ?_ | refine jb ?_)
  refine jr ?_
  refine jS (ru_loadR rfl rfl rfl rfl) ?_
  refine jS (ru_loadR rfl rfl rfl rfl) ?_
  refine jS (ru_call C4 ⟨rfl, rfl, trivial⟩) ?_
  refine jO (ru_storeR rfl rfl rfl rfl rfl rfl) ?_
  refine ja rfl ?_
  refine RG.nil (by kernel_rfl) ?_
  repeat (first | refine js ?_ | refine jb ?_)
  refine WpD.ret ?_
  exact ret2 rfl (.cell rfl rfl CRow.ok rfl) (.tmp rfl) (PLe.refl _)
theorem rpow_neg (p : RQ) (n : Nat) (hp : p.ok) (hn : n ≤ 64) (hn0 : 0 < n) (h0 : p.v ≠ 0) : Fn Tryz.prog En 33 [qP p, ex (.int .i64 (-(n : Int)))] (tupP [qC (p.v⁻¹ ^ n), ex (.bool true)]) := by
  have hr := RQ.sz hp
  have C1 := rcanonical En p hp
  generalize p.v = r at *
  have hnum : r.num ≠ 0 := fun h => h0 (Rat.num_eq_zero.1 h)
  have hsg : sg3 r.num ≠ 0 := by unfold sg3; rw [if_neg hnum]; split <;> decide
  have S1 := rsgn En r hr
  have h1 := zl_pow_le (n := n) hr.1
  have h2 := zl_pow_le (n := n) hr.2
  have hm : n * 1073741824 ≤ 64 * 1073741824 := Nat.mul_le_mul_right _ hn
  have C2 := kpow En r.num n hr.1 hn
  have C3 := kpow En r.den n hr.2 hn
  have C4 := klowest En ((r.den : Int) ^ n) (r.num ^ n) (by omega) (by omega) (Int.pow_ne_zero hnum)
  rw [divInt_pow, ← Rat.inv_def] at C4
  have e : IntKind.i64.wrap (-(-(n : Int))) = (n : Int) := by rw [Int.neg_neg]; exact w64 (by omega) (by omega)
  refine fn_of_body Tryz.func33 rfl Tryz.ntmps33 rfl ?_
  intro w0 h0
  repeat (first | refine js ?_ | refine jb ?_)
  refine jr ?_
  refine jT (ru_boxR rfl rfl rfl) ?_
  refine jT (ru_alloc rfl rfl rfl) ?_
  refine ja rfl ?_
  refine RG.nil (by kernel_rfl) ?_
  repeat (first | refine js ?_ | refine jb ?_)
  refine jr ?_
  refine jS (ru_loadR rfl rfl rfl rfl) ?_
  refine jS (ru_call C1 ⟨rfl, trivial⟩) ?_
  refine jT (ru_alloc rfl rfl rfl) ?_
  refine jO (ru_storeR rfl rfl rfl rfl rfl rfl) ?_
  refine RG.nil (by kernel_rfl) ?_
  repeat (first | refine js ?_ | refine jb ?_)
  refine jr ?_
  refine jm rfl ?_
  refine jS (rt_bin_to rfl rfl (fun w => run_lti w _ _ _ _ _ _) (vbool (decide_eq_false (by first | assumption | omega)))) ?_
  refine jm rfl ?_
  refine RG.S0 (LT.run rfl rfl rfl (rt_move rfl)) ?_
  refine RG.S0 (LT.run rfl rfl rfl (rt_bin_to rfl rfl (fun w => run_gti w _ _ _ _ _ _) (vbool (decide_eq_false (by first | assumption | omega))))) ?_
  refine jS (rt_pick_false rfl rfl) ?_
  refine jm rfl ?_
  refine RG.S0 (LT.run rfl rfl rfl (rt_move rfl)) ?_
  refine RG.S0 (LT.run rfl rfl rfl (rt_bin_to rfl rfl (fun w => run_lti w _ _ _ _ _ _) (vbool (decide_eq_true (by first | assumption | omega))))) ?_
  refine RG.S0 (LT.run rfl rfl rfl (rt_move rfl)) ?_
  refine RG.S0 (LT.run rfl rfl rfl (ru_loadR rfl rfl rfl rfl)) ?_
  refine RG.S0 (LT.run rfl rfl rfl (ru_call S1 ⟨rfl, trivial⟩)) ?_
  refine RG.S0 (LT.run rfl rfl rfl (rt_bin_to rfl rfl (fun w => run_eqi w _ _ _ _ _ _) (vbool (beqF (by first | assumption | omega))))) ?_
  refine RG.S0 (LT.run rfl rfl rfl (rt_pick_true rfl rfl)) ?_
  refine jS (rt_pick_false rfl rfl) ?_
  refine RG.nil (by kernel_rfl) ?_
  repeat (first | refine js ?_ | refine jb ?_)
  refine WpD.condF rfl ?_
  repeat (first | refine js ?_ | refine jb ?_)
  refine WpD.skip ?_
  repeat (first | refine js ?_ | refine jb ?_)
  refine jr ?_
  refine jS (ru_fieldAddr rfl rfl) ?_
  refine jS (ru_loadR rfl rfl rfl rfl) ?_
  refine jS (ru_fieldAddr rfl rfl) ?_
  refine jS (ru_loadR rfl rfl rfl rfl) ?_
  refine jT (ru_alloc rfl rfl rfl) ?_
  refine jT (ru_alloc rfl rfl rfl) ?_
  refine jO (ru_storeR rfl rfl rfl rfl rfl rfl) ?_
  refine jO (ru_storeR rfl rfl rfl rfl rfl rfl) ?_
  refine RG.nil (by kernel_rfl) ?_
  repeat (first | refine js ?_ | refine jb ?_)
  refine jr ?_
  refine jm rfl ?_
  refine jS (rt_bin_to rfl rfl (fun w => run_lti w _ _ _ _ _ _) (vbool (decide_eq_true (by first | assumption | omega)))) ?_
  refine RG.nil (by kernel_rfl) ?_
  repeat (first | refine js ?_ | refine jb ?_)
  refine WpD.condT rfl ?_
  repeat (first | refine js ?_ | refine jb ?_)
  refine jr ?_
  refine jm rfl ?_
  refine jS (rt_un_to rfl (fun w => run_negi w _ _) (vint e)) ?_
  refine jS (ru_loadR rfl rfl rfl rfl) ?_
  refine jS (ru_loadR rfl rfl rfl rfl) ?_
  refine ja rfl ?_
  refine jO (ru_storeR rfl rfl rfl rfl rfl rfl) ?_
  refine jO (ru_storeR rfl rfl rfl rfl rfl rfl) ?_
  refine RG.nil (by kernel_rfl) ?_
  repeat (first | refine js ?_ | refine jb ?_)
  refine jr ?_
  refine jS (ru_loadR rfl rfl rfl rfl) ?_
  refine jm rfl ?_
  refine jS (ru_call C3 ⟨rfl, rfl, trivial⟩) ?_
  refine jm rfl ?_
  refine jS (rt_extract rfl rfl) ?_
  refine jS (rt_extract rfl rfl) ?_
  refine jO (ru_storeR rfl rfl rfl rfl rfl rfl) ?_
  refine RG.nil (by kernel_rfl) ?_
  repeat (first | refine js ?_ | refine jb ?_)
  refine jr ?_
  refine jS (ru_loadR rfl rfl rfl rfl) ?_
  refine jm rfl ?_
  refine jS (ru_call C2 ⟨rfl, rfl, trivial⟩) ?_
  refine jm rfl ?_
  refine jS (rt_extract rfl rfl) ?_
  refine jS (rt_extract rfl rfl) ?_
  refine jO (ru_storeR rfl rfl rfl rfl rfl rfl) ?_
  refine RG.nil (by kernel_rfl) ?_
  repeat (first | refine js ?_ | refine jb ?_)
  refine jr ?_
  refine jS (ru_loadR rfl rfl rfl rfl) ?_
  refine jS (ru_loadR rfl rfl rfl rfl) ?_
  refine jS (ru_call C4 ⟨rfl, rfl, trivial⟩) ?_
  refine jO (ru_storeR rfl rfl rfl rfl rfl rfl) ?_
  refine ja rfl ?_
  refine RG.nil (by kernel_rfl) ?_
  repeat (first | refine js ?_ | refine jb ?_)
  refine WpD.ret ?_
  exact ret2 rfl (.cell rfl rfl CRow.ok rfl) (.tmp rfl) (PLe.refl _)
theorem riswhole (p : RQ) (hp : p.ok) : Fn Tryz.prog En 50 [qP p] (ex (.bool (cmpZ p.v.den 1 == 0))) := by
  have hr := RQ.sz hp
  have K1 := rcanonical En p hp
  generalize p.v = r at *
  have S1 := ksmall En 1 (by omega) (by omega)
  have m3 := kcmp En r.den 1 (Nat.le_trans hr.2 (by omega)) (by decide)
  refine fn_of_body Tryz.func50 rfl Tryz.ntmps50 rfl ?_
  intro w0 h0
  repeat (first | refine js ?_ | refine jb ?_)
  refine jr ?_
  refine jT (ru_boxR rfl rfl rfl) ?_
  refine ja rfl ?_
  refine RG.nil (by kernel_rfl) ?_
  repeat (first | refine js ?_ | refine jb ?_)
  refine jr ?_
  refine jS (ru_loadR rfl rfl rfl rfl) ?_
  refine jS (ru_call K1 ⟨rfl, trivial⟩) ?_
  first | refine jS (ru_field1 rfl rfl) ?_ | refine jS (ru_fieldR rfl rfl) ?_
  refine jS (ru_call S1 ⟨rfl, trivial⟩) ?_
  refine jS (ru_call m3 ⟨rfl, rfl, trivial⟩) ?_
  refine jS (rt_bin rfl rfl (fun w => run_eqi w _ _ _ _ _ _)) ?_
  refine ja rfl ?_
  refine RG.nil (by kernel_rfl) ?_
  repeat (first | refine js ?_ | refine jb ?_)
  refine WpD.ret ?_
  exact ret1 rfl (.tmp rfl) (PLe.refl _)
end
end Go.Proofs.YtpiflllcjgpkhaaGreatDoor

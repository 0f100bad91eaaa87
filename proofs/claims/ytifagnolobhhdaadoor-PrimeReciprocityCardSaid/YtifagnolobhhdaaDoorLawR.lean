/- The law of reciprocity: its walk. -/
import Derived.Test.YtifagnolobhhdaaDoorZb
import Derived.Test.YtifagnolobhhdaaDoorAwake
import Derived.OpenShut
namespace Go.Proofs.YtifagnolobhhdaaDoor
open Go.RowKit Limb Num
/-- The table of the program. -/
def TabE : Ev := ⟨Tab, fun _ _ hb ⟨t, fr, h⟩ => ⟨t, fr, by rw [hb.block _ (block_lt h)]; exact h⟩⟩
theorem fawake : Fn Tryd.prog TabE 16 [] (ex (.bool true)) := by
  intro h w vs ht hh ha
  cases vs with
  | nil => exact (awake_any w ht).mono fun _ _ ⟨he, hb⟩ => ex_fn hh he hb
  | cons => exact ha.elim
theorem fkron (En : Ev) (a n : Int) (ha : InR a) (hn : InR n) : Fn Tryd.prog En 20 [ex (.int .i64 a), ex (.int .i64 n)] (tupP [ex (.int .i64 (krZ a n)), ex (.int .i64 0)]) := by
  intro h w vs _ hh hv
  obtain ⟨v, u, rfl, h1, h2⟩ := hv.two
  have h1 : v = .int .i64 a := h1
  have h2 : u = .int .i64 n := h2
  subst h1 h2
  refine (kron_any a n w ha hn).mono ?_
  rintro e w' ⟨rfl, rfl⟩
  exact fn_post hh (Below.refl _ _) ⟨[_, _], rfl, rfl, rfl, trivial⟩
instance : CInt Tryd.prog 35 .u16 := ⟨Tryd.underlying35⟩
instance : CInt Tryd.prog 2 .i64 := ⟨Tryd.underlying2⟩
instance : CBody Tryd.prog 16 := ⟨⟨_, Tryd.func16, rfl, by rfl⟩⟩
instance : CBody Tryd.prog 20 := ⟨⟨_, Tryd.func20, rfl, by rfl⟩⟩
theorem dvs_small : Dvs 131071 := fun x y hx hy h0 => by
  have hl : ∀ n, n ≤ 131071 → (digs n).length ≤ 2 := fun n hn => digs_length_le (Nat.lt_of_le_of_lt hn (by decide))
  exact zdivide_small x y h0 (hl x hx) (hl y hy)
theorem w64 {n : Int} (h1 : -9223372036854775808 ≤ n) (h2 : n ≤ 9223372036854775807) : IntKind.i64.wrap n = n := IntWalk.i64_in _ ⟨h1, h2⟩
theorem recip_val {x y : Nat} (hx : x % 2 = 1) (hy : y % 2 = 1) (hg : Nat.gcd x y = 1) : krZ (x : Int) (y : Int) * krZ (y : Int) (x : Int) = if x % 4 = 3 ∧ y % 4 = 3 then -1 else 1 := by
  have e1 : krZ (x : Int) (y : Int) = kr x y := by unfold krZ; rw [if_neg (by omega), if_neg (by omega)]; simp
  have e2 : krZ (y : Int) (x : Int) = kr y x := by unfold krZ; rw [if_neg (by omega), if_neg (by omega)]; simp
  rw [e1, e2, kr_rec hx hy, sg_eq hx hy]
  intro q hq h1 h2
  have : q ∣ 1 := by rw [← hg]; exact Nat.dvd_gcd h1 h2
  have := Nat.le_of_dvd (by omega) this
  have := hq.1
  omega
theorem krZ_bd (a n : Int) : -1 ≤ krZ a n ∧ krZ a n ≤ 1 := by rcases krZ_three a n with h | h | h <;> rw [h] <;> decide
set_option maxHeartbeats 1000000 in
theorem frecip (a n : Nat) (ha : a < 65536) (hn : n < 65536) : Fn Tryd.prog TabE 8 [ex (.int .u16 (a : Int)), ex (.int .u16 (n : Int))] (ex (.bool true)) := by
  obtain ⟨x, hx⟩ : ∃ x, x = 2 * a + 1 := ⟨_, rfl⟩
  obtain ⟨y, hy⟩ : ∃ y, y = 2 * n + 1 := ⟨_, rfl⟩
  have h1 : IntKind.i64.wrap (a : Int) = a := w64 (by omega) (by omega)
  have h2 : IntKind.i64.wrap (2 * (a : Int)) = 2 * a := w64 (by omega) (by omega)
  have h3 : IntKind.i64.wrap (2 * (a : Int) + 1) = (x : Int) := by rw [w64 (by omega) (by omega)]; omega
  have h4 : IntKind.i64.wrap (n : Int) = n := w64 (by omega) (by omega)
  have h5 : IntKind.i64.wrap (2 * (n : Int)) = 2 * n := w64 (by omega) (by omega)
  have h6 : IntKind.i64.wrap (2 * (n : Int) + 1) = (y : Int) := by rw [w64 (by omega) (by omega)]; omega
  have C1 := fsmall TabE (x : Int) (by omega) (by omega)
  have C2 := fsmall TabE (y : Int) (by omega) (by omega)
  have C3 := cgcd TabE 131071 (by decide) dvs_small (x : Int) (y : Int) (by omega) (by omega)
  have C4 := fsmall TabE 1 (by omega) (by omega)
  have hgl : Nat.gcd x y ≤ 131071 := Nat.le_trans (Nat.gcd_le_left _ (by omega)) (by omega)
  have C5 := fsame TabE ((Int.gcd (x : Int) (y : Int) : Nat) : Int) 1 (by
    refine Nat.le_trans (m := 2) (digs_length_le ?_) (by omega)
    exact Nat.lt_of_le_of_lt (m := 131071) (by simpa using hgl) (by decide)) (by decide)
  have C6 := fawake
  have ix : InR (x : Int) := by unfold InR; omega
  have iy : InR (y : Int) := by unfold InR; omega
  have C7 := fkron TabE (x : Int) (y : Int) ix iy
  have C8 := fkron TabE (y : Int) (x : Int) iy ix
  refine fn_of_body Tryd.func8 rfl Tryd.ntmps8 rfl ?_
  intro w0 h0
  repeat (first | refine WpD.seq ?_ | refine WpD.block ?_)
  refine WpD.reg ?_
  refine RG.S0 (LT.plain rfl (rt_assign rfl)) ?_
  refine RG.nil (by kernel_rfl) ?_
  repeat (first | refine WpD.seq ?_ | refine WpD.block ?_)
  refine WpD.reg ?_
  refine RG.S0 (LT.plain rfl (rt_move rfl)) ?_
  refine RG.S0 (LT.plain rfl (rt_conv_to rfl (fun w => run_convi w CInt.ok CInt.ok _ _) (vint h1))) ?_
  refine RG.S0 (LT.plain rfl (rt_bin_to rfl rfl (fun w => run_muli w _ _ _ _ _ _) (vint h2))) ?_
  refine RG.S0 (LT.plain rfl (rt_bin_to rfl rfl (fun w => run_addi w _ _ _ _ _ _) (vint h3))) ?_
  refine RG.S0 (LT.plain rfl (rt_move rfl)) ?_
  refine RG.S0 (LT.plain rfl (rt_conv_to rfl (fun w => run_convi w CInt.ok CInt.ok _ _) (vint h4))) ?_
  refine RG.S0 (LT.plain rfl (rt_bin_to rfl rfl (fun w => run_muli w _ _ _ _ _ _) (vint h5))) ?_
  refine RG.S0 (LT.plain rfl (rt_bin_to rfl rfl (fun w => run_addi w _ _ _ _ _ _) (vint h6))) ?_
  refine RG.S0 (LT.plain rfl (rt_assign rfl)) ?_
  refine RG.S0 (LT.plain rfl (rt_assign rfl)) ?_
  refine RG.nil (by kernel_rfl) ?_
  repeat (first | refine WpD.seq ?_ | refine WpD.block ?_)
  refine WpD.reg ?_
  refine RG.S0 (LT.plain rfl (rt_move rfl)) ?_
  refine RG.S0 (LT.plain rfl (ru_call C1 ⟨rfl, trivial⟩)) ?_
  refine RG.S0 (LT.plain rfl (rt_move rfl)) ?_
  refine RG.S0 (LT.plain rfl (ru_call C2 ⟨rfl, trivial⟩)) ?_
  refine RG.S0 (LT.plain rfl (ru_call C3 ⟨rfl, rfl, trivial⟩)) ?_
  refine RG.S0 (LT.plain rfl (ru_call C4 ⟨rfl, trivial⟩)) ?_
  refine RG.S0 (LT.plain rfl (ru_call C5 ⟨rfl, rfl, trivial⟩)) ?_
  refine RG.S0 (LT.plain rfl (rt_un rfl (fun w => run_not w _))) ?_
  refine RG.nil (by kernel_rfl) ?_
  refine WpD.cond rfl (fun hb => ?_) (fun hb => ?_)
  ·
    repeat (first | refine WpD.seq ?_ | refine WpD.block ?_)
    refine WpD.reg ?_
    refine RG.S0 (LT.plain rfl (ru_call C6 trivial)) ?_
    refine RG.S0 (LT.plain rfl (rt_assign rfl)) ?_
    refine RG.nil (by kernel_rfl) ?_
    refine WpD.ret ?_
    exact ret1 rfl (.tmp rfl) (PLe.refl _)
  · have hg : Nat.gcd x y = 1 := by
      have : ((Int.gcd (x : Int) (y : Int) : Nat) : Int) = 1 := by simpa using hb
      have e : Int.gcd (x : Int) (y : Int) = Nat.gcd x y := rfl
      omega
    refine WpD.skip ?_
    repeat (first | refine WpD.seq ?_ | refine WpD.block ?_)
    refine WpD.reg ?_
    refine RG.S0 (LT.plain rfl (rt_move rfl)) ?_
    refine RG.S0 (LT.plain rfl (rt_move rfl)) ?_
    refine RG.S0 (LT.plain rfl (ru_call C7 ⟨rfl, rfl, trivial⟩)) ?_
    refine RG.S0 (LT.plain rfl (rt_move rfl)) ?_
    refine RG.S0 (LT.plain rfl (rt_extract rfl rfl)) ?_
    refine RG.S0 (LT.plain rfl (rt_extract rfl rfl)) ?_
    refine RG.S0 (LT.plain rfl (rt_assign rfl)) ?_
    refine RG.S0 (LT.plain rfl (rt_assign rfl)) ?_
    refine RG.nil (by kernel_rfl) ?_
    repeat (first | refine WpD.seq ?_ | refine WpD.block ?_)
    refine WpD.reg ?_
    refine RG.S0 (LT.plain rfl (rt_move rfl)) ?_
    refine RG.S0 (LT.plain rfl (rt_move rfl)) ?_
    refine RG.S0 (LT.plain rfl (ru_call C8 ⟨rfl, rfl, trivial⟩)) ?_
    refine RG.S0 (LT.plain rfl (rt_move rfl)) ?_
    refine RG.S0 (LT.plain rfl (rt_extract rfl rfl)) ?_
    refine RG.S0 (LT.plain rfl (rt_extract rfl rfl)) ?_
    refine RG.S0 (LT.plain rfl (rt_assign rfl)) ?_
    refine RG.S0 (LT.plain rfl (rt_assign rfl)) ?_
    refine RG.nil (by kernel_rfl) ?_
    repeat (first | refine WpD.seq ?_ | refine WpD.block ?_)
    refine WpD.reg ?_
    refine RG.S0 (LT.plain rfl (rt_assign rfl)) ?_
    refine RG.nil (by kernel_rfl) ?_
    have hv := recip_val (by omega) (by omega) hg
    have hq : (4 : Int) ≠ 0 := by decide
    have k1 := krZ_bd (x : Int) (y : Int)
    have k2 := krZ_bd (y : Int) (x : Int)
    have tx : (x : Int).tmod 4 = (x % 4 : Nat) := by rw [Int.tmod_eq_emod_of_nonneg (by omega)]; rfl
    have ty : (y : Int).tmod 4 = (y % 4 : Nat) := by rw [Int.tmod_eq_emod_of_nonneg (by omega)]; rfl
    have e7 : ∀ u : Int, krZ (x : Int) (y : Int) * krZ (y : Int) (x : Int) = u → -1 ≤ u → u ≤ 1 → IntKind.i64.wrap (krZ (x : Int) (y : Int) * krZ (y : Int) (x : Int)) = u := fun u hu h1 h2 => by rw [hu]; exact w64 (by omega) (by omega)
    by_cases hx3 : x % 4 = 3
    · have bx3 : ((x : Int).tmod 4 == 3) = true := by rw [tx, hx3]; rfl
      by_cases hy3 : y % 4 = 3
      · have by3 : ((y : Int).tmod 4 == 3) = true := by rw [ty, hy3]; rfl
        rw [if_pos ⟨hx3, hy3⟩] at hv
        have e8 := e7 _ hv (by omega) (by omega)
        repeat (first | refine WpD.seq ?_ | refine WpD.block ?_)
        refine WpD.reg ?_
        refine RG.S0 (LT.plain rfl (rt_move rfl)) ?_
        refine RG.S0 (LT.plain rfl (rt_bin rfl rfl (fun w => run_remi w _ _ _ _ _ _ (by assumption)))) ?_
        refine RG.S0 (LT.plain rfl (rt_bin_to rfl rfl (fun w => run_eqi w _ _ _ _ _ _) (vbool bx3))) ?_
        refine RG.S0 (LT.plain rfl (rt_move rfl)) ?_
        first | refine RG.S0 (LT.run rfl rfl rfl (rt_move rfl)) ?_ | refine RG.S0 (LT.skip rfl rfl rfl) ?_
        first | refine RG.S0 (LT.run rfl rfl rfl (rt_bin rfl rfl (fun w => run_remi w _ _ _ _ _ _ (by assumption)))) ?_ | refine RG.S0 (LT.skip rfl rfl rfl) ?_
        first | refine RG.S0 (LT.run rfl rfl rfl (rt_bin_to rfl rfl (fun w => run_eqi w _ _ _ _ _ _) (vbool by3))) ?_ | refine RG.S0 (LT.skip rfl rfl rfl) ?_
        first | refine RG.S0 (LT.plain rfl (rt_pick_true rfl rfl)) ?_ | refine RG.S0 (LT.plain rfl (rt_pick_false rfl rfl)) ?_
        refine RG.nil (by kernel_rfl) ?_
        refine WpD.cond rfl (fun _ => ?_) (fun hb => Bool.noConfusion hb)
        repeat (first | refine WpD.seq ?_ | refine WpD.block ?_)
        refine WpD.reg ?_
        refine RG.S0 (LT.plain rfl (rt_assign rfl)) ?_
        refine RG.nil (by kernel_rfl) ?_
        repeat (first | refine WpD.seq ?_ | refine WpD.block ?_)
        refine WpD.reg ?_
        refine RG.S0 (LT.plain rfl (rt_move rfl)) ?_
        refine RG.S0 (LT.plain rfl (rt_bin rfl rfl (fun w => run_eqi w _ _ _ _ _ _))) ?_
        refine RG.S0 (LT.plain rfl (rt_move rfl)) ?_
        first | refine RG.S0 (LT.run rfl rfl rfl (rt_move rfl)) ?_ | refine RG.S0 (LT.skip rfl rfl rfl) ?_
        first | refine RG.S0 (LT.run rfl rfl rfl (rt_bin rfl rfl (fun w => run_eqi w _ _ _ _ _ _))) ?_ | refine RG.S0 (LT.skip rfl rfl rfl) ?_
        first | refine RG.S0 (LT.plain rfl (rt_pick_true rfl rfl)) ?_ | refine RG.S0 (LT.plain rfl (rt_pick_false rfl rfl)) ?_
        refine RG.S0 (LT.plain rfl (rt_move rfl)) ?_
        first | refine RG.S0 (LT.run rfl rfl rfl (rt_move rfl)) ?_ | refine RG.S0 (LT.skip rfl rfl rfl) ?_
        first | refine RG.S0 (LT.run rfl rfl rfl (rt_move rfl)) ?_ | refine RG.S0 (LT.skip rfl rfl rfl) ?_
        first | refine RG.S0 (LT.run rfl rfl rfl (rt_bin_to rfl rfl (fun w => run_muli w _ _ _ _ _ _) (vint e8))) ?_ | refine RG.S0 (LT.skip rfl rfl rfl) ?_
        first | refine RG.S0 (LT.run rfl rfl rfl (rt_move rfl)) ?_ | refine RG.S0 (LT.skip rfl rfl rfl) ?_
        first | refine RG.S0 (LT.run rfl rfl rfl (rt_bin rfl rfl (fun w => run_eqi w _ _ _ _ _ _))) ?_ | refine RG.S0 (LT.skip rfl rfl rfl) ?_
        first | refine RG.S0 (LT.plain rfl (rt_pick_true rfl rfl)) ?_ | refine RG.S0 (LT.plain rfl (rt_pick_false rfl rfl)) ?_
        refine RG.S0 (LT.plain rfl (rt_move rfl)) ?_
        first | refine RG.S0 (LT.run rfl rfl rfl (ru_call C6 trivial)) ?_ | refine RG.S0 (LT.skip rfl rfl rfl) ?_
        first | refine RG.S0 (LT.plain rfl (rt_pick_true rfl rfl)) ?_ | refine RG.S0 (LT.plain rfl (rt_pick_false rfl rfl)) ?_
        refine RG.S0 (LT.plain rfl (rt_assign rfl)) ?_
        refine RG.nil (by kernel_rfl) ?_
        refine WpD.ret ?_
        exact ret1 rfl (.tmp rfl) (PLe.refl _)
      · have by3 : ((y : Int).tmod 4 == 3) = false := by rw [ty, beq_eq_false_iff_ne]; omega
        rw [if_neg (by omega)] at hv
        have e8 := e7 _ hv (by omega) (by omega)
        repeat (first | refine WpD.seq ?_ | refine WpD.block ?_)
        refine WpD.reg ?_
        refine RG.S0 (LT.plain rfl (rt_move rfl)) ?_
        refine RG.S0 (LT.plain rfl (rt_bin rfl rfl (fun w => run_remi w _ _ _ _ _ _ (by assumption)))) ?_
        refine RG.S0 (LT.plain rfl (rt_bin_to rfl rfl (fun w => run_eqi w _ _ _ _ _ _) (vbool bx3))) ?_
        refine RG.S0 (LT.plain rfl (rt_move rfl)) ?_
        first | refine RG.S0 (LT.run rfl rfl rfl (rt_move rfl)) ?_ | refine RG.S0 (LT.skip rfl rfl rfl) ?_
        first | refine RG.S0 (LT.run rfl rfl rfl (rt_bin rfl rfl (fun w => run_remi w _ _ _ _ _ _ (by assumption)))) ?_ | refine RG.S0 (LT.skip rfl rfl rfl) ?_
        first | refine RG.S0 (LT.run rfl rfl rfl (rt_bin_to rfl rfl (fun w => run_eqi w _ _ _ _ _ _) (vbool by3))) ?_ | refine RG.S0 (LT.skip rfl rfl rfl) ?_
        first | refine RG.S0 (LT.plain rfl (rt_pick_true rfl rfl)) ?_ | refine RG.S0 (LT.plain rfl (rt_pick_false rfl rfl)) ?_
        refine RG.nil (by kernel_rfl) ?_
        refine WpD.cond rfl (fun hb => Bool.noConfusion hb) (fun _ => ?_)
        refine WpD.skip ?_
        repeat (first | refine WpD.seq ?_ | refine WpD.block ?_)
        refine WpD.reg ?_
        refine RG.S0 (LT.plain rfl (rt_move rfl)) ?_
        refine RG.S0 (LT.plain rfl (rt_bin rfl rfl (fun w => run_eqi w _ _ _ _ _ _))) ?_
        refine RG.S0 (LT.plain rfl (rt_move rfl)) ?_
        first | refine RG.S0 (LT.run rfl rfl rfl (rt_move rfl)) ?_ | refine RG.S0 (LT.skip rfl rfl rfl) ?_
        first | refine RG.S0 (LT.run rfl rfl rfl (rt_bin rfl rfl (fun w => run_eqi w _ _ _ _ _ _))) ?_ | refine RG.S0 (LT.skip rfl rfl rfl) ?_
        first | refine RG.S0 (LT.plain rfl (rt_pick_true rfl rfl)) ?_ | refine RG.S0 (LT.plain rfl (rt_pick_false rfl rfl)) ?_
        refine RG.S0 (LT.plain rfl (rt_move rfl)) ?_
        first | refine RG.S0 (LT.run rfl rfl rfl (rt_move rfl)) ?_ | refine RG.S0 (LT.skip rfl rfl rfl) ?_
        first | refine RG.S0 (LT.run rfl rfl rfl (rt_move rfl)) ?_ | refine RG.S0 (LT.skip rfl rfl rfl) ?_
        first | refine RG.S0 (LT.run rfl rfl rfl (rt_bin_to rfl rfl (fun w => run_muli w _ _ _ _ _ _) (vint e8))) ?_ | refine RG.S0 (LT.skip rfl rfl rfl) ?_
        first | refine RG.S0 (LT.run rfl rfl rfl (rt_move rfl)) ?_ | refine RG.S0 (LT.skip rfl rfl rfl) ?_
        first | refine RG.S0 (LT.run rfl rfl rfl (rt_bin rfl rfl (fun w => run_eqi w _ _ _ _ _ _))) ?_ | refine RG.S0 (LT.skip rfl rfl rfl) ?_
        first | refine RG.S0 (LT.plain rfl (rt_pick_true rfl rfl)) ?_ | refine RG.S0 (LT.plain rfl (rt_pick_false rfl rfl)) ?_
        refine RG.S0 (LT.plain rfl (rt_move rfl)) ?_
        first | refine RG.S0 (LT.run rfl rfl rfl (ru_call C6 trivial)) ?_ | refine RG.S0 (LT.skip rfl rfl rfl) ?_
        first | refine RG.S0 (LT.plain rfl (rt_pick_true rfl rfl)) ?_ | refine RG.S0 (LT.plain rfl (rt_pick_false rfl rfl)) ?_
        refine RG.S0 (LT.plain rfl (rt_assign rfl)) ?_
        refine RG.nil (by kernel_rfl) ?_
        refine WpD.ret ?_
        exact ret1 rfl (.tmp rfl) (PLe.refl _)
    · have bx3 : ((x : Int).tmod 4 == 3) = false := by rw [tx, beq_eq_false_iff_ne]; omega
      rw [if_neg (by omega)] at hv
      have e8 := e7 _ hv (by omega) (by omega)
      repeat (first | refine WpD.seq ?_ | refine WpD.block ?_)
      refine WpD.reg ?_
      refine RG.S0 (LT.plain rfl (rt_move rfl)) ?_
      refine RG.S0 (LT.plain rfl (rt_bin rfl rfl (fun w => run_remi w _ _ _ _ _ _ (by assumption)))) ?_
      refine RG.S0 (LT.plain rfl (rt_bin_to rfl rfl (fun w => run_eqi w _ _ _ _ _ _) (vbool bx3))) ?_
      refine RG.S0 (LT.plain rfl (rt_move rfl)) ?_
      first | refine RG.S0 (LT.run rfl rfl rfl (rt_move rfl)) ?_ | refine RG.S0 (LT.skip rfl rfl rfl) ?_
      first | refine RG.S0 (LT.run rfl rfl rfl (rt_bin rfl rfl (fun w => run_remi w _ _ _ _ _ _ (by assumption)))) ?_ | refine RG.S0 (LT.skip rfl rfl rfl) ?_
      first | refine RG.S0 (LT.run rfl rfl rfl (rt_bin rfl rfl (fun w => run_eqi w _ _ _ _ _ _))) ?_ | refine RG.S0 (LT.skip rfl rfl rfl) ?_
      first | refine RG.S0 (LT.plain rfl (rt_pick_true rfl rfl)) ?_ | refine RG.S0 (LT.plain rfl (rt_pick_false rfl rfl)) ?_
      refine RG.nil (by kernel_rfl) ?_
      refine WpD.cond rfl (fun hb => Bool.noConfusion hb) (fun _ => ?_)
      refine WpD.skip ?_
      repeat (first | refine WpD.seq ?_ | refine WpD.block ?_)
      refine WpD.reg ?_
      refine RG.S0 (LT.plain rfl (rt_move rfl)) ?_
      refine RG.S0 (LT.plain rfl (rt_bin rfl rfl (fun w => run_eqi w _ _ _ _ _ _))) ?_
      refine RG.S0 (LT.plain rfl (rt_move rfl)) ?_
      first | refine RG.S0 (LT.run rfl rfl rfl (rt_move rfl)) ?_ | refine RG.S0 (LT.skip rfl rfl rfl) ?_
      first | refine RG.S0 (LT.run rfl rfl rfl (rt_bin rfl rfl (fun w => run_eqi w _ _ _ _ _ _))) ?_ | refine RG.S0 (LT.skip rfl rfl rfl) ?_
      first | refine RG.S0 (LT.plain rfl (rt_pick_true rfl rfl)) ?_ | refine RG.S0 (LT.plain rfl (rt_pick_false rfl rfl)) ?_
      refine RG.S0 (LT.plain rfl (rt_move rfl)) ?_
      first | refine RG.S0 (LT.run rfl rfl rfl (rt_move rfl)) ?_ | refine RG.S0 (LT.skip rfl rfl rfl) ?_
      first | refine RG.S0 (LT.run rfl rfl rfl (rt_move rfl)) ?_ | refine RG.S0 (LT.skip rfl rfl rfl) ?_
      first | refine RG.S0 (LT.run rfl rfl rfl (rt_bin_to rfl rfl (fun w => run_muli w _ _ _ _ _ _) (vint e8))) ?_ | refine RG.S0 (LT.skip rfl rfl rfl) ?_
      first | refine RG.S0 (LT.run rfl rfl rfl (rt_move rfl)) ?_ | refine RG.S0 (LT.skip rfl rfl rfl) ?_
      first | refine RG.S0 (LT.run rfl rfl rfl (rt_bin rfl rfl (fun w => run_eqi w _ _ _ _ _ _))) ?_ | refine RG.S0 (LT.skip rfl rfl rfl) ?_
      first | refine RG.S0 (LT.plain rfl (rt_pick_true rfl rfl)) ?_ | refine RG.S0 (LT.plain rfl (rt_pick_false rfl rfl)) ?_
      refine RG.S0 (LT.plain rfl (rt_move rfl)) ?_
      first | refine RG.S0 (LT.run rfl rfl rfl (ru_call C6 trivial)) ?_ | refine RG.S0 (LT.skip rfl rfl rfl) ?_
      first | refine RG.S0 (LT.plain rfl (rt_pick_true rfl rfl)) ?_ | refine RG.S0 (LT.plain rfl (rt_pick_false rfl rfl)) ?_
      refine RG.S0 (LT.plain rfl (rt_assign rfl)) ?_
      refine RG.nil (by kernel_rfl) ?_
      refine WpD.ret ?_
      exact ret1 rfl (.tmp rfl) (PLe.refl _)
theorem fn_true {P : Program} {En : Ev} {f : FuncId} {ps : List Pd} {vs : List Value} (h : Fn P En f ps (ex (.bool true))) (w : World) (he : En.e w) (ha : AllV (fun _ _ => none) ps vs) : Calls P f vs.toArray w fun e w' => e = .returned (.bool true) ∧ Below w.heap.size w w' := by
  refine (h (fun _ _ => none) w vs he (fun _ _ _ e => by cases e) ha).mono ?_
  rintro e w' ⟨v, h', rfl, _, _, _, hb, hv⟩
  have hv : v = .bool true := hv
  exact ⟨by rw [hv], hb⟩
theorem law_PrimeReciprocity (a n : Int) (w : World) (wa : (Lit.int .u16 a).wf = true) (wn : (Lit.int .u16 n).wf = true) (ht : Tab w) :
    Calls Tryd.prog 8 #[.int .u16 a, .int .u16 n] w fun e w' => e = .returned (.bool true) ∧ Below w.heap.size w w' := by
  obtain ⟨a1, a2⟩ := bounds_u16 wa
  obtain ⟨n1, n2⟩ := bounds_u16 wn
  obtain ⟨x, rfl⟩ := Int.eq_ofNat_of_zero_le a1
  obtain ⟨y, rfl⟩ := Int.eq_ofNat_of_zero_le n1
  exact fn_true (frecip x y (by omega) (by omega)) w ht ⟨rfl, rfl, trivial⟩
end Go.Proofs.YtifagnolobhhdaaDoor

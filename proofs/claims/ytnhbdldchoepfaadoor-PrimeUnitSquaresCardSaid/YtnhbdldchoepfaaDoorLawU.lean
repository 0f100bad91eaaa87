/- The classes of units and squares: the law's walk. -/
import Derived.Test.YtnhbdldchoepfaaDoorUa
namespace Go.Proofs.YtnhbdldchoepfaaDoor
open Go.RowKit Limb Num
/-- The modulus that tells the class. -/
def uM (p : Nat) : Nat := if p = 2 then 8 else p
def uV (r p : Nat) : Int := if p = 2 then (r : Int) else krZ ((r % p : Nat) : Int) p
def usOk (p : Nat) : Bool := (List.range (uM p)).all fun r => (List.range (uM p)).all fun q => r % p == 0 || q % p == 0 || ((r * (q * q)) % uM p % p != 0 && uV r p == uV ((r * (q * q)) % uM p) p && uV r p != 0)
def pr14 (j : Nat) : Nat := ([2, 3, 5, 7, 2, 3, 5, 11, 13, 17, 19, 23, 3, 2] : List Nat).getD j 0
theorem us_all : (List.range 14).all (fun j => isP (pr14 j) && decide (pr14 j ≤ 23) && decide (pr20 j = (pr14 j : Nat)) && usOk (pr14 j)) = true := by decide +kernel
theorem us_ok (j : Nat) (h : j < 14) : isP (pr14 j) = true ∧ pr14 j ≤ 23 ∧ pr20 j = (pr14 j : Nat) ∧ usOk (pr14 j) = true := by
  have := List.all_eq_true.1 us_all j (by simpa using h)
  simp only [Bool.and_eq_true, decide_eq_true_eq] at this
  exact ⟨this.1.1.1, this.1.1.2, this.1.2, this.2⟩
theorem unit_val {X : Int} {p : Nat} (hp : isP p = true) (h0 : X % (p : Int) ≠ 0) : unitV X p = uV (X % (uM p : Nat)).toNat p ∧ unitE X p = 0 := by
  have hb := isP_le hp
  unfold unitV unitE uV uM
  rw [Int.toNat_natCast, if_pos hp, if_pos hp, if_neg h0, if_neg h0]
  refine ⟨?_, rfl⟩
  by_cases h2 : p = 2
  · subst h2
    rw [if_pos rfl, if_pos rfl, if_pos (show ((2 : Nat) : Int) = 2 from rfl)]
    rw [Int.toNat_of_nonneg (Int.emod_nonneg _ (by decide))]; rfl
  · rw [if_neg (by omega), if_neg h2, if_neg h2]
    have r1 := Int.emod_nonneg X (b := (p : Int)) (by omega)
    rw [Int.natCast_emod, Int.toNat_of_nonneg r1, Int.emod_emod]
theorem us_at {p r q : Nat} (h : usOk p = true) (hr : r < uM p) (hq : q < uM p) (h1 : r % p ≠ 0) (h2 : q % p ≠ 0) : (r * (q * q)) % uM p % p ≠ 0 ∧ uV r p = uV ((r * (q * q)) % uM p) p ∧ uV r p ≠ 0 := by
  have := List.all_eq_true.1 h r (by simpa using hr)
  have := List.all_eq_true.1 this q (by simpa using hq)
  simp only [Bool.or_eq_true, Bool.and_eq_true, beq_iff_eq, bne_iff_ne] at this
  rcases this with (h' | h') | h'
  · exact absurd h' h1
  · exact absurd h' h2
  · exact ⟨h'.1.1, h'.1.2, h'.2⟩
theorem uM_mod {p : Nat} (hp : isP p = true) (X : Int) : (((X % (uM p : Nat)).toNat % p : Nat) : Int) = X % (p : Int) := by
  have hb := isP_le hp
  have hm : (uM p : Int) ≠ 0 := by unfold uM; split <;> omega
  rw [Int.natCast_emod, Int.toNat_of_nonneg (Int.emod_nonneg _ hm)]
  refine Int.emod_emod_of_dvd _ ?_
  unfold uM; split
  · rename_i h; subst h; exact ⟨4, by decide⟩
  · exact Int.dvd_refl _
theorem unit_sq {p : Nat} (hp : isP p = true) (h : usOk p = true) (a b : Int) (ha : a % (p : Int) ≠ 0) (hb : b % (p : Int) ≠ 0) :
    unitE a p = 0 ∧ unitE (a * (b * b)) p = 0 ∧ unitV a p = unitV (a * (b * b)) p ∧ unitV a p ≠ 0 := by
  have hbd := isP_le hp
  have hm : 0 < (uM p : Int) := by unfold uM; split <;> omega
  have lt : ∀ X : Int, (X % (uM p : Nat)).toNat < uM p := fun X => by
    have := Int.emod_lt_of_pos X hm
    have := Int.emod_nonneg X (b := (uM p : Int)) (by omega)
    omega
  have e1 := uM_mod hp a
  have e2 := uM_mod hp b
  have e3 := uM_mod hp (a * (b * b))
  have key : (a * (b * b) % (uM p : Nat)).toNat = ((a % (uM p : Nat)).toNat * ((b % (uM p : Nat)).toNat * (b % (uM p : Nat)).toNat)) % uM p := by
    apply Int.ofNat.inj
    show (((a * (b * b) % (uM p : Nat)).toNat : Nat) : Int) = _
    rw [Int.toNat_of_nonneg (Int.emod_nonneg _ (by omega))]
    show _ = ((((a % (uM p : Nat)).toNat * ((b % (uM p : Nat)).toNat * (b % (uM p : Nat)).toNat)) % uM p : Nat) : Int)
    rw [Int.natCast_emod, Int.natCast_mul, Int.natCast_mul, Int.toNat_of_nonneg (Int.emod_nonneg _ (by omega)), Int.toNat_of_nonneg (Int.emod_nonneg _ (by omega))]
    rw [Int.mul_emod a, Int.mul_emod b b, Int.mul_emod (a % _) (b % _ * (b % _)), Int.emod_emod]
  obtain ⟨k1, k2, k3⟩ := us_at h (lt a) (lt b) (by omega) (by omega)
  rw [← key] at k1 k2
  obtain ⟨f1, f2⟩ := unit_val hp ha
  obtain ⟨f3, f4⟩ := unit_val (X := a * (b * b)) hp (by omega)
  rw [f1, f3]
  exact ⟨f2, f4, k2, k3⟩
instance : CInt Tryd.prog 21 .i32 := ⟨Tryd.underlying21⟩
set_option maxHeartbeats 1000000 in
theorem fsquares (a b k : Int) (a1 : -2147483648 ≤ a) (a2 : a ≤ 2147483647) (b1 : -2147483648 ≤ b) (b2 : b ≤ 2147483647) (k1 : 0 ≤ k) :
    Fn Tryd.prog TabE 4 [ex (.int .i32 a), ex (.int .i32 b), ex (.int .u8 k)] (ex (.bool true)) := by
  have ek : k.tmod 14 = k % 14 := Int.tmod_eq_emod_of_nonneg k1
  obtain ⟨hp, hp23, e20, hus⟩ := us_ok (k % 14).toNat (by omega)
  have C1 := fprime TabE (k % 14) (by omega) (by omega)
  rw [show (k % 14) % 20 = k % 14 by omega, e20] at C1
  generalize pr14 (k % 14).toNat = p at *
  have hb := isP_le hp
  have hp0 : (p : Int) ≠ 0 := by omega
  have ea : IntKind.i64.wrap a = a := w64 (by omega) (by omega)
  have eb : IntKind.i64.wrap b = b := w64 (by omega) (by omega)
  have tz : ∀ x : Int, (x.tmod (p : Int) == 0) = decide (x % (p : Int) = 0) := fun x => by
    by_cases h : x % (p : Int) = 0
    · rw [decide_eq_true h, beq_iff_eq]; exact Int.tmod_eq_zero_of_dvd (Int.dvd_of_emod_eq_zero h)
    · rw [decide_eq_false h, beq_eq_false_iff_ne]; exact fun h' => h (Int.emod_eq_zero_of_dvd (Int.dvd_of_tmod_eq_zero h'))
  by_cases ha : a % (p : Int) = 0
  · have ba : (a.tmod (p : Int) == 0) = true := by rw [tz, decide_eq_true ha]
    refine fn_of_body Tryd.func4 rfl Tryd.ntmps4 rfl ?_
    intro w0 h0
    repeat (first | refine WpD.seq ?_ | refine WpD.block ?_)
    refine WpD.reg ?_
    refine RG.S0 (LT.plain rfl (rt_assign rfl)) ?_
    refine RG.nil (by kernel_rfl) ?_
    repeat (first | refine WpD.seq ?_ | refine WpD.block ?_)
    refine WpD.reg ?_
    refine RG.S0 (LT.plain rfl (rt_move rfl)) ?_
    refine RG.S0 (LT.plain rfl (rt_bin_to rfl rfl (fun w => run_remi w _ _ _ _ _ _ (by first | decide | omega | assumption)) (vint ek))) ?_
    refine RG.S0 (LT.plain rfl (ru_call C1 ⟨rfl, trivial⟩)) ?_
    refine RG.S0 (LT.plain rfl (rt_assign rfl)) ?_
    refine RG.nil (by kernel_rfl) ?_
    repeat (first | refine WpD.seq ?_ | refine WpD.block ?_)
    refine WpD.reg ?_
    refine RG.S0 (LT.plain rfl (rt_move rfl)) ?_
    refine RG.S0 (LT.plain rfl (rt_conv_to rfl (fun w => run_convi w CInt.ok CInt.ok _ _) (vint ea))) ?_
    refine RG.S0 (LT.plain rfl (rt_move rfl)) ?_
    refine RG.S0 (LT.plain rfl (rt_bin rfl rfl (fun w => run_remi w _ _ _ _ _ _ (by first | decide | omega | assumption)))) ?_
    refine RG.S0 (LT.plain rfl (rt_bin_to rfl rfl (fun w => run_eqi w _ _ _ _ _ _) (vbool ba))) ?_
    refine RG.S0 (LT.plain rfl (rt_move rfl)) ?_
    first | refine RG.S0 (LT.run rfl rfl rfl (rt_move rfl)) ?_ | refine RG.S0 (LT.skip rfl rfl rfl) ?_
    first | refine RG.S0 (LT.run rfl rfl rfl (rt_conv rfl (fun w => run_convi w CInt.ok CInt.ok _ _))) ?_ | refine RG.S0 (LT.skip rfl rfl rfl) ?_
    first | refine RG.S0 (LT.run rfl rfl rfl (rt_move rfl)) ?_ | refine RG.S0 (LT.skip rfl rfl rfl) ?_
    first | refine RG.S0 (LT.run rfl rfl rfl (rt_bin rfl rfl (fun w => run_remi w _ _ _ _ _ _ (by first | decide | omega | assumption)))) ?_ | refine RG.S0 (LT.skip rfl rfl rfl) ?_
    first | refine RG.S0 (LT.run rfl rfl rfl (rt_bin rfl rfl (fun w => run_eqi w _ _ _ _ _ _))) ?_ | refine RG.S0 (LT.skip rfl rfl rfl) ?_
    first | refine RG.S0 (LT.plain rfl (rt_pick_true rfl rfl)) ?_ | refine RG.S0 (LT.plain rfl (rt_pick_false rfl rfl)) ?_
    refine RG.nil (by kernel_rfl) ?_
    repeat (first | refine WpD.seq ?_ | refine WpD.block ?_)
    refine WpD.condT rfl ?_
    repeat (first | refine WpD.seq ?_ | refine WpD.block ?_)
    refine WpD.reg ?_
    refine RG.S0 (LT.plain rfl (ru_call fawake trivial)) ?_
    refine RG.S0 (LT.plain rfl (rt_assign rfl)) ?_
    refine RG.nil (by kernel_rfl) ?_
    repeat (first | refine WpD.seq ?_ | refine WpD.block ?_)
    refine WpD.ret ?_
    exact ret1 rfl (.tmp rfl) (PLe.refl _)
  · have ba : (a.tmod (p : Int) == 0) = false := by rw [tz, decide_eq_false ha]
    by_cases hbz : b % (p : Int) = 0
    · have bb : (b.tmod (p : Int) == 0) = true := by rw [tz, decide_eq_true hbz]
      refine fn_of_body Tryd.func4 rfl Tryd.ntmps4 rfl ?_
      intro w0 h0
      repeat (first | refine WpD.seq ?_ | refine WpD.block ?_)
      refine WpD.reg ?_
      refine RG.S0 (LT.plain rfl (rt_assign rfl)) ?_
      refine RG.nil (by kernel_rfl) ?_
      repeat (first | refine WpD.seq ?_ | refine WpD.block ?_)
      refine WpD.reg ?_
      refine RG.S0 (LT.plain rfl (rt_move rfl)) ?_
      refine RG.S0 (LT.plain rfl (rt_bin_to rfl rfl (fun w => run_remi w _ _ _ _ _ _ (by first | decide | omega | assumption)) (vint ek))) ?_
      refine RG.S0 (LT.plain rfl (ru_call C1 ⟨rfl, trivial⟩)) ?_
      refine RG.S0 (LT.plain rfl (rt_assign rfl)) ?_
      refine RG.nil (by kernel_rfl) ?_
      repeat (first | refine WpD.seq ?_ | refine WpD.block ?_)
      refine WpD.reg ?_
      refine RG.S0 (LT.plain rfl (rt_move rfl)) ?_
      refine RG.S0 (LT.plain rfl (rt_conv_to rfl (fun w => run_convi w CInt.ok CInt.ok _ _) (vint ea))) ?_
      refine RG.S0 (LT.plain rfl (rt_move rfl)) ?_
      refine RG.S0 (LT.plain rfl (rt_bin rfl rfl (fun w => run_remi w _ _ _ _ _ _ (by first | decide | omega | assumption)))) ?_
      refine RG.S0 (LT.plain rfl (rt_bin_to rfl rfl (fun w => run_eqi w _ _ _ _ _ _) (vbool ba))) ?_
      refine RG.S0 (LT.plain rfl (rt_move rfl)) ?_
      first | refine RG.S0 (LT.run rfl rfl rfl (rt_move rfl)) ?_ | refine RG.S0 (LT.skip rfl rfl rfl) ?_
      first | refine RG.S0 (LT.run rfl rfl rfl (rt_conv_to rfl (fun w => run_convi w CInt.ok CInt.ok _ _) (vint eb))) ?_ | refine RG.S0 (LT.skip rfl rfl rfl) ?_
      first | refine RG.S0 (LT.run rfl rfl rfl (rt_move rfl)) ?_ | refine RG.S0 (LT.skip rfl rfl rfl) ?_
      first | refine RG.S0 (LT.run rfl rfl rfl (rt_bin rfl rfl (fun w => run_remi w _ _ _ _ _ _ (by first | decide | omega | assumption)))) ?_ | refine RG.S0 (LT.skip rfl rfl rfl) ?_
      first | refine RG.S0 (LT.run rfl rfl rfl (rt_bin_to rfl rfl (fun w => run_eqi w _ _ _ _ _ _) (vbool bb))) ?_ | refine RG.S0 (LT.skip rfl rfl rfl) ?_
      first | refine RG.S0 (LT.plain rfl (rt_pick_true rfl rfl)) ?_ | refine RG.S0 (LT.plain rfl (rt_pick_false rfl rfl)) ?_
      refine RG.nil (by kernel_rfl) ?_
      repeat (first | refine WpD.seq ?_ | refine WpD.block ?_)
      refine WpD.condT rfl ?_
      repeat (first | refine WpD.seq ?_ | refine WpD.block ?_)
      refine WpD.reg ?_
      refine RG.S0 (LT.plain rfl (ru_call fawake trivial)) ?_
      refine RG.S0 (LT.plain rfl (rt_assign rfl)) ?_
      refine RG.nil (by kernel_rfl) ?_
      repeat (first | refine WpD.seq ?_ | refine WpD.block ?_)
      refine WpD.ret ?_
      exact ret1 rfl (.tmp rfl) (PLe.refl _)
    · have bb : (b.tmod (p : Int) == 0) = false := by rw [tz, decide_eq_false hbz]
      obtain ⟨u1, u2, u3, u4⟩ := unit_sq hp hus a b ha hbz
      have sl : ∀ x : Int, x.natAbs < 79228162514264337593543950336 → (digs x.natAbs).length ≤ 274877906944 := fun x hx => Nat.le_trans (digs_length_le (k := 3) hx) (by omega)
      have ab : a.natAbs ≤ 2147483648 := by omega
      have bbn : b.natAbs ≤ 2147483648 := by omega
      have qb : (b * b).natAbs ≤ 2147483648 * 2147483648 := by rw [Int.natAbs_mul]; exact Nat.mul_le_mul bbn bbn
      have qa : (a * (b * b)).natAbs ≤ 2147483648 * (2147483648 * 2147483648) := by rw [Int.natAbs_mul]; exact Nat.mul_le_mul ab qb
      have C2 := ismall TabE b (by omega) (by omega)
      have C3 := imul TabE (decide (b < 0)) (digs b.natAbs) (decide (b < 0)) (digs b.natAbs) (lm_digs _) (lm_digs _) (sl _ (by omega)) (sl _ (by omega))
      have C4 := ismall TabE a (by omega) (by omega)
      have C5 := imul TabE (decide (a < 0)) (digs a.natAbs) (decide (b * b < 0)) (digs (b * b).natAbs) (lm_digs _) (lm_digs _) (sl _ (by omega)) (sl _ (by omega))
      have C6 := iunit (decide (a < 0)) (digs a.natAbs) p (lm_digs _) (sl _ (by omega))
      have C7 := iunit (decide (a * (b * b) < 0)) (digs (a * (b * b)).natAbs) p (lm_digs _) (sl _ (by omega))
      rw [zv_C] at C3 C6 C7
      rw [zv_C, zv_C] at C5
      rw [u1] at C6
      rw [u2, ← u3] at C7
      generalize unitV a p = V at *
      have bv : (V == V) = true := beq_self_eq_true V
      have bn : (V != 0) = true := by rw [bne_iff_ne]; exact u4
      refine fn_of_body Tryd.func4 rfl Tryd.ntmps4 rfl ?_
      intro w0 h0
      repeat (first | refine WpD.seq ?_ | refine WpD.block ?_)
      refine WpD.reg ?_
      refine RG.S0 (LT.plain rfl (rt_assign rfl)) ?_
      refine RG.nil (by kernel_rfl) ?_
      repeat (first | refine WpD.seq ?_ | refine WpD.block ?_)
      refine WpD.reg ?_
      refine RG.S0 (LT.plain rfl (rt_move rfl)) ?_
      refine RG.S0 (LT.plain rfl (rt_bin_to rfl rfl (fun w => run_remi w _ _ _ _ _ _ (by first | decide | omega | assumption)) (vint ek))) ?_
      refine RG.S0 (LT.plain rfl (ru_call C1 ⟨rfl, trivial⟩)) ?_
      refine RG.S0 (LT.plain rfl (rt_assign rfl)) ?_
      refine RG.nil (by kernel_rfl) ?_
      repeat (first | refine WpD.seq ?_ | refine WpD.block ?_)
      refine WpD.reg ?_
      refine RG.S0 (LT.plain rfl (rt_move rfl)) ?_
      refine RG.S0 (LT.plain rfl (rt_conv_to rfl (fun w => run_convi w CInt.ok CInt.ok _ _) (vint ea))) ?_
      refine RG.S0 (LT.plain rfl (rt_move rfl)) ?_
      refine RG.S0 (LT.plain rfl (rt_bin rfl rfl (fun w => run_remi w _ _ _ _ _ _ (by first | decide | omega | assumption)))) ?_
      refine RG.S0 (LT.plain rfl (rt_bin_to rfl rfl (fun w => run_eqi w _ _ _ _ _ _) (vbool ba))) ?_
      refine RG.S0 (LT.plain rfl (rt_move rfl)) ?_
      first | refine RG.S0 (LT.run rfl rfl rfl (rt_move rfl)) ?_ | refine RG.S0 (LT.skip rfl rfl rfl) ?_
      first | refine RG.S0 (LT.run rfl rfl rfl (rt_conv_to rfl (fun w => run_convi w CInt.ok CInt.ok _ _) (vint eb))) ?_ | refine RG.S0 (LT.skip rfl rfl rfl) ?_
      first | refine RG.S0 (LT.run rfl rfl rfl (rt_move rfl)) ?_ | refine RG.S0 (LT.skip rfl rfl rfl) ?_
      first | refine RG.S0 (LT.run rfl rfl rfl (rt_bin rfl rfl (fun w => run_remi w _ _ _ _ _ _ (by first | decide | omega | assumption)))) ?_ | refine RG.S0 (LT.skip rfl rfl rfl) ?_
      first | refine RG.S0 (LT.run rfl rfl rfl (rt_bin_to rfl rfl (fun w => run_eqi w _ _ _ _ _ _) (vbool bb))) ?_ | refine RG.S0 (LT.skip rfl rfl rfl) ?_
      first | refine RG.S0 (LT.plain rfl (rt_pick_true rfl rfl)) ?_ | refine RG.S0 (LT.plain rfl (rt_pick_false rfl rfl)) ?_
      refine RG.nil (by kernel_rfl) ?_
      repeat (first | refine WpD.seq ?_ | refine WpD.block ?_)
      refine WpD.condF rfl ?_
      repeat (first | refine WpD.seq ?_ | refine WpD.block ?_)
      refine WpD.skip ?_
      repeat (first | refine WpD.seq ?_ | refine WpD.block ?_)
      refine WpD.reg ?_
      refine RG.S0 (LT.plain rfl (rt_move rfl)) ?_
      refine RG.S0 (LT.plain rfl (rt_conv_to rfl (fun w => run_convi w CInt.ok CInt.ok _ _) (vint eb))) ?_
      refine RG.S0 (LT.plain rfl (ru_call C2 ⟨rfl, trivial⟩)) ?_
      refine RG.S0 (LT.plain rfl (rt_move rfl)) ?_
      refine RG.S0 (LT.plain rfl (rt_conv_to rfl (fun w => run_convi w CInt.ok CInt.ok _ _) (vint eb))) ?_
      refine RG.S0 (LT.plain rfl (ru_call C2 ⟨rfl, trivial⟩)) ?_
      refine RG.S0 (LT.plain rfl (ru_call C3 ⟨rfl, rfl, trivial⟩)) ?_
      refine RG.S1 (LT.plain rfl (ru_alloc rfl rfl rfl)) ?_
      refine RG.N1 (LT.plain rfl (ru_storeR rfl rfl rfl rfl rfl rfl)) ?_
      refine RG.nil (by kernel_rfl) ?_
      repeat (first | refine WpD.seq ?_ | refine WpD.block ?_)
      refine WpD.reg ?_
      refine RG.S0 (LT.plain rfl (rt_move rfl)) ?_
      refine RG.S0 (LT.plain rfl (rt_conv_to rfl (fun w => run_convi w CInt.ok CInt.ok _ _) (vint ea))) ?_
      refine RG.S0 (LT.plain rfl (ru_call C4 ⟨rfl, trivial⟩)) ?_
      refine RG.S0 (LT.plain rfl (rt_move rfl)) ?_
      refine RG.S0 (LT.plain rfl (ru_call C6 ⟨rfl, rfl, trivial⟩)) ?_
      refine RG.S0 (LT.plain rfl (rt_move rfl)) ?_
      refine RG.S0 (LT.plain rfl (rt_extract rfl rfl)) ?_
      refine RG.S0 (LT.plain rfl (rt_extract rfl rfl)) ?_
      refine RG.S0 (LT.plain rfl (rt_assign rfl)) ?_
      refine RG.S0 (LT.plain rfl (rt_assign rfl)) ?_
      refine RG.nil (by kernel_rfl) ?_
      repeat (first | refine WpD.seq ?_ | refine WpD.block ?_)
      refine WpD.reg ?_
      refine RG.S0 (LT.plain rfl (rt_move rfl)) ?_
      refine RG.S0 (LT.plain rfl (rt_conv_to rfl (fun w => run_convi w CInt.ok CInt.ok _ _) (vint ea))) ?_
      refine RG.S0 (LT.plain rfl (ru_call C4 ⟨rfl, trivial⟩)) ?_
      first | refine RG.S0 (LT.plain rfl (ru_loadR rfl rfl rfl rfl)) ?_ | refine RG.S0 (LT.plain rfl (rc_loadR rfl rfl rfl)) ?_
      refine RG.S0 (LT.plain rfl (ru_call C5 ⟨rfl, rfl, trivial⟩)) ?_
      refine RG.S0 (LT.plain rfl (rt_move rfl)) ?_
      refine RG.S0 (LT.plain rfl (ru_call C7 ⟨rfl, rfl, trivial⟩)) ?_
      refine RG.S0 (LT.plain rfl (rt_move rfl)) ?_
      refine RG.S0 (LT.plain rfl (rt_extract rfl rfl)) ?_
      refine RG.S0 (LT.plain rfl (rt_extract rfl rfl)) ?_
      refine RG.S0 (LT.plain rfl (rt_assign rfl)) ?_
      refine RG.S0 (LT.plain rfl (rt_assign rfl)) ?_
      refine RG.nil (by kernel_rfl) ?_
      repeat (first | refine WpD.seq ?_ | refine WpD.block ?_)
      refine WpD.reg ?_
      refine RG.S0 (LT.plain rfl (rt_move rfl)) ?_
      refine RG.S0 (LT.plain rfl (rt_bin rfl rfl (fun w => run_eqi w _ _ _ _ _ _))) ?_
      refine RG.S0 (LT.plain rfl (rt_move rfl)) ?_
      first | refine RG.S0 (LT.run rfl rfl rfl (rt_move rfl)) ?_ | refine RG.S0 (LT.skip rfl rfl rfl) ?_
      first | refine RG.S0 (LT.run rfl rfl rfl (rt_bin rfl rfl (fun w => run_eqi w _ _ _ _ _ _))) ?_ | refine RG.S0 (LT.skip rfl rfl rfl) ?_
      first | refine RG.S0 (LT.plain rfl (rt_pick_true rfl rfl)) ?_ | refine RG.S0 (LT.plain rfl (rt_pick_false rfl rfl)) ?_
      refine RG.S0 (LT.plain rfl (rt_move rfl)) ?_
      first | refine RG.S0 (LT.run rfl rfl rfl (rt_move rfl)) ?_ | refine RG.S0 (LT.skip rfl rfl rfl) ?_
      first | refine RG.S0 (LT.run rfl rfl rfl (rt_move rfl)) ?_ | refine RG.S0 (LT.skip rfl rfl rfl) ?_
      first | refine RG.S0 (LT.run rfl rfl rfl (rt_bin_to rfl rfl (fun w => run_eqi w _ _ _ _ _ _) (vbool bv))) ?_ | refine RG.S0 (LT.skip rfl rfl rfl) ?_
      first | refine RG.S0 (LT.plain rfl (rt_pick_true rfl rfl)) ?_ | refine RG.S0 (LT.plain rfl (rt_pick_false rfl rfl)) ?_
      refine RG.S0 (LT.plain rfl (rt_move rfl)) ?_
      first | refine RG.S0 (LT.run rfl rfl rfl (rt_move rfl)) ?_ | refine RG.S0 (LT.skip rfl rfl rfl) ?_
      first | refine RG.S0 (LT.run rfl rfl rfl (rt_bin_to rfl rfl (fun w => run_nei w _ _ _ _ _ _) (vbool bn))) ?_ | refine RG.S0 (LT.skip rfl rfl rfl) ?_
      first | refine RG.S0 (LT.plain rfl (rt_pick_true rfl rfl)) ?_ | refine RG.S0 (LT.plain rfl (rt_pick_false rfl rfl)) ?_
      refine RG.S0 (LT.plain rfl (rt_move rfl)) ?_
      first | refine RG.S0 (LT.run rfl rfl rfl (ru_call fawake trivial)) ?_ | refine RG.S0 (LT.skip rfl rfl rfl) ?_
      first | refine RG.S0 (LT.plain rfl (rt_pick_true rfl rfl)) ?_ | refine RG.S0 (LT.plain rfl (rt_pick_false rfl rfl)) ?_
      refine RG.S0 (LT.plain rfl (rt_assign rfl)) ?_
      refine RG.nil (by kernel_rfl) ?_
      repeat (first | refine WpD.seq ?_ | refine WpD.block ?_)
      refine WpD.ret ?_
      exact ret1 rfl (.tmp rfl) (PLe.refl _)
theorem law_PrimeUnitSquares (a b k : Int) (w : World) (wa : (Lit.int .i32 a).wf = true) (wb : (Lit.int .i32 b).wf = true) (wk : (Lit.int .u8 k).wf = true) (ht : Tab w) :
    Calls Tryd.prog 4 #[.int .i32 a, .int .i32 b, .int .u8 k] w fun e w' => e = .returned (.bool true) ∧ Below w.heap.size w w' := by
  obtain ⟨a1, a2⟩ := bounds_i32 wa
  obtain ⟨n1, n2⟩ := bounds_i32 wb
  obtain ⟨k1, _⟩ := bounds_u8 wk
  exact fn_true (fsquares a b k (by omega) (by omega) (by omega) (by omega) (by omega)) w ht ⟨rfl, rfl, rfl, trivial⟩
end Go.Proofs.YtnhbdldchoepfaaDoor

/- Natural numbers of the program: addNat, subNat. -/
import Derived.Test.YtnhbdldchoepfaaDoorNb
namespace Go.Proofs.YtnhbdldchoepfaaDoor
open Go.RowKit Limb
theorem PsLe.of_eq {a b : List Pd} (h : a = b) : PsLe a b := by rw [h]; exact PsLe.refl _
theorem u32w (c : Nat) : IntKind.u32.wrap (c : Int) = ((c % B : Nat) : Int) := by rw [IntKind.wrap_u32, B_def]; omega
theorem shr32 (c : Nat) : (c : Int).fdiv (2 ^ (min (32 : Int).toNat IntKind.u64.bits)) = ((c / B : Nat) : Int) := by
  show (c : Int).fdiv (2 ^ 32) = _
  rw [Int.fdiv_eq_ediv_of_nonneg _ (by decide), B_def]; norm_cast
section
variable (En : Ev)
set_option maxHeartbeats 1000000 in
theorem nadd (a b : List Nat) (ha : a.length ≤ 549755813888) (hb : b.length ≤ 549755813888) (hla : Lm a) (hlb : Lm b) : Fn Tryd.prog En 43 [mag a, mag b] (mag (digs (val a + val b))) := by
  refine fn_of_body Tryd.func43 rfl Tryd.ntmps43 rfl ?_
  intro w0 h0
  repeat (first | refine WpD.seq ?_ | refine WpD.block ?_)
  refine WpD.reg ?_
  refine RG.S0 (LT.plain rfl (rt_assign rfl)) ?_
  refine RG.nil (by kernel_rfl) ?_
  refine WpD.cut (α := {p : List Nat × List Nat // p.2.length ≤ p.1.length ∧ p.1.length ≤ 549755813888 ∧ Lm p.1 ∧ Lm p.2 ∧ val p.1 + val p.2 = val a + val b}) (fun p => ⟨[(0, .one (mag p.1.1)), (1, .one (mag p.1.2))], []⟩) ?_ ?_
  · by_cases h : a.length < b.length
    · have b1 : decide ((a.length : Int) < (b.length : Int)) = true := decide_eq_true (by omega)
      repeat (first | refine WpD.seq ?_ | refine WpD.block ?_)
      refine WpD.reg ?_
      refine RG.S0 (LT.plain rfl (rt_move rfl)) ?_
      refine RG.S0 (LT.plain rfl (ru_len rfl CSlice.ok)) ?_
      refine RG.S0 (LT.plain rfl (rt_move rfl)) ?_
      refine RG.S0 (LT.plain rfl (ru_len rfl CSlice.ok)) ?_
      refine RG.S0 (LT.plain rfl (rt_bin_to rfl rfl (fun w => run_lti w _ _ _ _ _ _) (vbool b1))) ?_
      refine RG.nil (by kernel_rfl) ?_
      repeat (first | refine WpD.seq ?_ | refine WpD.block ?_)
      refine WpD.condT rfl ?_
      repeat (first | refine WpD.seq ?_ | refine WpD.block ?_)
      refine WpD.reg ?_
      refine RG.S0 (LT.plain rfl (rt_move rfl)) ?_
      refine RG.S0 (LT.plain rfl (rt_move rfl)) ?_
      refine RG.S0 (LT.plain rfl (rt_assign rfl)) ?_
      refine RG.S0 (LT.plain rfl (rt_assign rfl)) ?_
      refine RG.nil (by kernel_rfl) ?_
      refine ⟨⟨(b, a), by simp only; omega, hb, hlb, hla, by simp only; omega⟩, ?_⟩
      refine Sub.mk ?_ ?_
      · repeat (first | exact trivial | refine ⟨⟨_, rfl, ⟨rfl, rfl⟩⟩, Option.some_ne_none _, ?_⟩ | refine ⟨⟨_, rfl, ⟨rfl, rfl, rfl, rfl⟩⟩, Option.some_ne_none _, ?_⟩ | refine ⟨⟨_, rfl, PLe.refl _⟩, trivial, ?_⟩)
      · repeat (first | exact trivial | refine ⟨⟨_, rfl, PsLe.refl _⟩, ?_⟩)
    · have b1 : decide ((a.length : Int) < (b.length : Int)) = false := decide_eq_false (by omega)
      repeat (first | refine WpD.seq ?_ | refine WpD.block ?_)
      refine WpD.reg ?_
      refine RG.S0 (LT.plain rfl (rt_move rfl)) ?_
      refine RG.S0 (LT.plain rfl (ru_len rfl CSlice.ok)) ?_
      refine RG.S0 (LT.plain rfl (rt_move rfl)) ?_
      refine RG.S0 (LT.plain rfl (ru_len rfl CSlice.ok)) ?_
      refine RG.S0 (LT.plain rfl (rt_bin_to rfl rfl (fun w => run_lti w _ _ _ _ _ _) (vbool b1))) ?_
      refine RG.nil (by kernel_rfl) ?_
      repeat (first | refine WpD.seq ?_ | refine WpD.block ?_)
      refine WpD.condF rfl ?_
      repeat (first | refine WpD.seq ?_ | refine WpD.block ?_)
      refine WpD.skip ?_
      refine ⟨⟨(a, b), by simp only; omega, ha, hla, hlb, rfl⟩, ?_⟩
      refine Sub.mk ?_ ?_
      · repeat (first | exact trivial | refine ⟨⟨_, rfl, ⟨rfl, rfl⟩⟩, Option.some_ne_none _, ?_⟩ | refine ⟨⟨_, rfl, ⟨rfl, rfl, rfl, rfl⟩⟩, Option.some_ne_none _, ?_⟩ | refine ⟨⟨_, rfl, PLe.refl _⟩, trivial, ?_⟩)
      · repeat (first | exact trivial | refine ⟨⟨_, rfl, PsLe.refl _⟩, ?_⟩)
  · rintro ⟨⟨x, y⟩, hle, hx, hlx, hly, hv⟩
    simp only at hle hx hlx hly hv
    dsimp only
    rw [← hv]
    clear hv hla hlb ha hb
    have h2 : IntKind.i64.wrap ((x.length : Int) + 1) = ((x.length + 1 : Nat) : Int) := by rw [w64 (by omega) (by omega)]; omega
    repeat (first | refine WpD.seq ?_ | refine WpD.block ?_)
    refine WpD.reg ?_
    refine RG.S0 (LT.plain rfl (rt_move rfl)) ?_
    refine RG.S0 (LT.plain rfl (ru_len rfl CSlice.ok)) ?_
    refine RG.S0 (LT.plain rfl (rt_bin_to rfl rfl (fun w => run_addi w _ _ _ _ _ _) (vint h2))) ?_
    refine RG.S1 (LT.plain rfl (ru_make rfl rfl rfl rfl (by omega) (by omega))) ?_
    refine RG.S0 (LT.plain rfl (rt_assign rfl)) ?_
    refine RG.nil (by kernel_rfl) ?_
    repeat (first | refine WpD.seq ?_ | refine WpD.block ?_)
    refine WpD.reg ?_
    refine RG.S0 (LT.plain rfl (rt_assign rfl)) ?_
    refine RG.nil (by kernel_rfl) ?_
    repeat (first | refine WpD.seq ?_ | refine WpD.block ?_)
    refine WpD.reg ?_
    refine RG.S0 (LT.plain rfl (rt_move rfl)) ?_
    refine RG.S0 (LT.plain rfl (ru_len rfl CSlice.ok)) ?_
    refine RG.S0 (LT.plain rfl (rt_move rfl)) ?_
    refine RG.nil (by kernel_rfl) ?_
    repeat (first | refine WpD.seq ?_ | refine WpD.block ?_)
    refine WpD.loop (α := {p : Nat × List Nat × Nat // p.1 ≤ y.length ∧ SumInv x y p.1 p.2.1 p.2.2}) (fun p => ⟨[(0, .one (mag x)), (1, .one (mag y)), (5, .own 19 0 (x.length + 1) (x.length + 1)), (6, .one (ex (.int .u64 (p.1.2.2 : Int)))), (21, .one (ex (.int .i64 (y.length : Int)))), (22, .one (ex (.int .i64 (p.1.1 : Int))))], [(19, (p.1.2.1 ++ List.replicate (x.length + 1 - p.1.1) 0).map lb)]⟩) (fun p => y.length - p.1.1) ⟨(0, [], 0), Nat.zero_le _, SumInv.start x y⟩ ?_ ?_
    ·
      refine Sub.mk ?_ ⟨⟨_, rfl, PsLe.of_eq (zerosL _)⟩, trivial⟩
      repeat (first | exact trivial | refine ⟨⟨_, rfl, ⟨rfl, rfl⟩⟩, Option.some_ne_none _, ?_⟩ | refine ⟨⟨_, rfl, ⟨rfl, rfl, rfl, rfl⟩⟩, Option.some_ne_none _, ?_⟩ | refine ⟨⟨_, rfl, PLe.refl _⟩, trivial, ?_⟩)
    · rintro ⟨⟨k, A, c⟩, hk, hS⟩
      simp only at hk hS
      dsimp only
      obtain ⟨hA, hAl, hc, _⟩ := id hS
      by_cases hlt : k < y.length
      · obtain ⟨u, hu⟩ : ∃ u, x[k]? = some u := ⟨_, List.getElem?_eq_getElem (by omega)⟩
        obtain ⟨v, hv⟩ : ∃ v, y[k]? = some v := ⟨_, List.getElem?_eq_getElem (by omega)⟩
        have huB := hlx.get hu
        have hvB := hly.get hv
        rw [B_def] at huB hvB
        have hS' := SumInv.step hlx hly hS
        rw [hu, hv, Option.getD_some, Option.getD_some] at hS'
        have b1 : decide ((k : Int) < (y.length : Int)) = true := decide_eq_true (by omega)
        have e5 : IntKind.u64.wrap (u : Int) = (u : Int) := wu64 (by omega) (by omega)
        have e10 : IntKind.u64.wrap (v : Int) = (v : Int) := wu64 (by omega) (by omega)
        have e11 : IntKind.u64.wrap ((u : Int) + (v : Int)) = (u : Int) + (v : Int) := wu64 (by omega) (by omega)
        have e12 : IntKind.u64.wrap ((c : Int) + ((u : Int) + (v : Int))) = ((c + u + v : Nat) : Int) := by rw [wu64 (by omega) (by omega)]; omega
        have hkn : k < x.length + 1 := by omega
        have hm : x.length + 1 - k = (x.length - k) + 1 := by omega
        have hsetl : k < ((A ++ List.replicate (x.length + 1 - k) 0).map lb).length := by simp; omega
        have hset : ((A ++ List.replicate (x.length + 1 - k) 0).map lb).set k (ex (.int .u32 (((c + u + v) % B : Nat) : Int))) = ((A ++ [(c + u + v) % B]) ++ List.replicate (x.length + 1 - (k + 1)) 0).map lb := by
          rw [hm, show x.length + 1 - (k + 1) = x.length - k by omega]; exact setL0 hA
        have e13 : IntKind.i64.wrap ((k : Int) + 1) = ((k + 1 : Nat) : Int) := by rw [w64 (by omega) (by omega)]; omega
        repeat (first | refine WpD.seq ?_ | refine WpD.block ?_)
        refine WpD.reg ?_
        refine RG.S0 (LT.plain rfl (rt_bin_to rfl rfl (fun w => run_lti w _ _ _ _ _ _) (vbool b1))) ?_
        refine RG.nil (by kernel_rfl) ?_
        repeat (first | refine WpD.seq ?_ | refine WpD.block ?_)
        refine WpD.condT rfl ?_
        repeat (first | refine WpD.seq ?_ | refine WpD.block ?_)
        refine WpD.skip ?_
        repeat (first | refine WpD.seq ?_ | refine WpD.block ?_)
        refine WpD.reg ?_
        refine RG.S0 (LT.plain rfl (rt_move rfl)) ?_
        refine RG.S0 (LT.plain rfl (rt_assign rfl)) ?_
        refine RG.nil (by kernel_rfl) ?_
        repeat (first | refine WpD.seq ?_ | refine WpD.block ?_)
        refine WpD.reg ?_
        refine RG.S0 (LT.plain rfl (rt_move rfl)) ?_
        refine RG.S0 (LT.plain rfl (rt_move rfl)) ?_
        refine RG.S0 (LT.plain rfl (rt_move rfl)) ?_
        refine RG.S0 (LT.plain rfl (rc_index rfl rfl (by assumption))) ?_
        refine RG.S0 (LT.plain rfl (rc_load1 rfl rfl)) ?_
        refine RG.S0 (LT.plain rfl (rt_conv_to rfl (fun w => run_convi w CInt.ok CInt.ok _ _) (vint e5))) ?_
        refine RG.S0 (LT.plain rfl (rt_move rfl)) ?_
        refine RG.S0 (LT.plain rfl (rt_move rfl)) ?_
        refine RG.S0 (LT.plain rfl (rc_index rfl rfl (by assumption))) ?_
        refine RG.S0 (LT.plain rfl (rc_load1 rfl rfl)) ?_
        refine RG.S0 (LT.plain rfl (rt_conv_to rfl (fun w => run_convi w CInt.ok CInt.ok _ _) (vint e10))) ?_
        refine RG.S0 (LT.plain rfl (rt_bin_to rfl rfl (fun w => run_addi w _ _ _ _ _ _) (vint e11))) ?_
        refine RG.S0 (LT.plain rfl (rt_bin_to rfl rfl (fun w => run_addi w _ _ _ _ _ _) (vint e12))) ?_
        refine RG.S0 (LT.plain rfl (rt_assign rfl)) ?_
        refine RG.nil (by kernel_rfl) ?_
        repeat (first | refine WpD.seq ?_ | refine WpD.block ?_)
        refine WpD.reg ?_
        refine RG.S0 (LT.plain rfl (rt_move rfl)) ?_
        refine RG.S0 (LT.plain rfl (rt_move rfl)) ?_
        refine RG.S0 (LT.plain rfl (rt_move rfl)) ?_
        refine RG.S0 (LT.plain rfl (rt_conv_to rfl (fun w => run_convi w CInt.ok CInt.ok _ _) (vint (u32w _)))) ?_
        refine RG.S0 (LT.plain rfl (ru_index0 rfl rfl (by assumption))) ?_
        refine RG.N1 (LT.plain rfl (ru_set1 rfl rfl rfl (by assumption) (by assumption))) ?_
        refine RG.nil (by kernel_rfl) ?_
        repeat (first | refine WpD.seq ?_ | refine WpD.block ?_)
        refine WpD.reg ?_
        refine RG.S0 (LT.plain rfl (rt_move rfl)) ?_
        refine RG.S0 (LT.plain rfl (rt_bin_to rfl rfl (fun w => run_shri w _ _ _ _ _ _ _ (by first | decide | omega | assumption)) (vint (shr32 _)))) ?_
        refine RG.S0 (LT.plain rfl (rt_assign rfl)) ?_
        refine RG.nil (by kernel_rfl) ?_
        repeat (first | refine WpD.seq ?_ | refine WpD.block ?_)
        refine WpD.reg ?_
        refine RG.S0 (LT.plain rfl (rt_bin_to rfl rfl (fun w => run_addi w _ _ _ _ _ _) (vint e13))) ?_
        refine RG.S0 (LT.plain rfl (rt_move rfl)) ?_
        refine RG.nil (by kernel_rfl) ?_
        refine ⟨⟨(k + 1, A ++ [(c + u + v) % B], (c + u + v) / B), hlt, hS'⟩, ?_, by simp only; omega⟩
        refine Sub.mk ?_ ?_
        · repeat (first | exact trivial | refine ⟨⟨_, rfl, ⟨rfl, rfl⟩⟩, Option.some_ne_none _, ?_⟩ | refine ⟨⟨_, rfl, ⟨rfl, rfl, rfl, rfl⟩⟩, Option.some_ne_none _, ?_⟩ | refine ⟨⟨_, rfl, PLe.refl _⟩, trivial, ?_⟩)
        · repeat (first | exact trivial | refine ⟨⟨_, rfl, PsLe.refl _⟩, ?_⟩)
      · have b1 : decide ((k : Int) < (y.length : Int)) = false := decide_eq_false (by omega)
        have hky : k = y.length := by omega
        subst hky
        have e4 : IntKind.i64.wrap ((x.length : Int) - (y.length : Int)) = ((x.length - y.length : Nat) : Int) := by rw [w64 (by omega) (by omega)]; omega
        repeat (first | refine WpD.seq ?_ | refine WpD.block ?_)
        refine WpD.reg ?_
        refine RG.S0 (LT.plain rfl (rt_bin_to rfl rfl (fun w => run_lti w _ _ _ _ _ _) (vbool b1))) ?_
        refine RG.nil (by kernel_rfl) ?_
        repeat (first | refine WpD.seq ?_ | refine WpD.block ?_)
        refine WpD.condF rfl ?_
        repeat (first | refine WpD.seq ?_ | refine WpD.block ?_)
        refine WpD.exit ?_
        repeat (first | refine WpD.seq ?_ | refine WpD.block ?_)
        refine WpD.reg ?_
        refine RG.S0 (LT.plain rfl (rt_move rfl)) ?_
        refine RG.S0 (LT.plain rfl (ru_len rfl CSlice.ok)) ?_
        refine RG.S0 (LT.plain rfl (rt_move rfl)) ?_
        refine RG.S0 (LT.plain rfl (ru_len rfl CSlice.ok)) ?_
        refine RG.S0 (LT.plain rfl (rt_bin_to rfl rfl (fun w => run_subi w _ _ _ _ _ _) (vint e4))) ?_
        refine RG.S0 (LT.plain rfl (rt_move rfl)) ?_
        refine RG.nil (by kernel_rfl) ?_
        repeat (first | refine WpD.seq ?_ | refine WpD.block ?_)
        refine WpD.loop (α := {p : Nat × List Nat × Nat // p.1 ≤ x.length - y.length ∧ SumInv x y (y.length + p.1) p.2.1 p.2.2}) (fun p => ⟨[(0, .one (mag x)), (1, .one (mag y)), (5, .own 19 0 (x.length + 1) (x.length + 1)), (6, .one (ex (.int .u64 (p.1.2.2 : Int)))), (50, .one (ex (.int .i64 ((x.length - y.length : Nat) : Int)))), (51, .one (ex (.int .i64 (p.1.1 : Int))))], [(19, (p.1.2.1 ++ List.replicate (x.length + 1 - (y.length + p.1.1)) 0).map lb)]⟩) (fun p => x.length - y.length - p.1.1) ⟨(0, A, c), Nat.zero_le _, hS⟩ ?_ ?_
        ·
          refine Sub.mk ?_ ?_
          · repeat (first | exact trivial | refine ⟨⟨_, rfl, ⟨rfl, rfl⟩⟩, Option.some_ne_none _, ?_⟩ | refine ⟨⟨_, rfl, ⟨rfl, rfl, rfl, rfl⟩⟩, Option.some_ne_none _, ?_⟩ | refine ⟨⟨_, rfl, PLe.refl _⟩, trivial, ?_⟩)
          · repeat (first | exact trivial | refine ⟨⟨_, rfl, PsLe.refl _⟩, ?_⟩)
        · clear hA hAl hc hS b1 hk e4 hlt
          rintro ⟨⟨k, A, c⟩, hk, hS⟩
          simp only at hk hS
          dsimp only
          obtain ⟨hA, hAl, hc, _⟩ := id hS
          by_cases hlt : k < x.length - y.length
          · obtain ⟨u, hu⟩ : ∃ u, x[y.length + k]? = some u := ⟨_, List.getElem?_eq_getElem (by omega)⟩
            have huB := hlx.get hu
            rw [B_def] at huB
            have hS' := SumInv.step hlx hly hS
            rw [hu, Option.getD_some, show y[y.length + k]? = none from List.getElem?_eq_none (by omega), Option.getD_none, Nat.add_zero] at hS'
            have b1 : decide ((k : Int) < ((x.length - y.length : Nat) : Int)) = true := decide_eq_true (by omega)
            have e5 : IntKind.i64.wrap ((y.length : Int) + (k : Int)) = ((y.length + k : Nat) : Int) := by rw [w64 (by omega) (by omega)]; omega
            have e8 : IntKind.u64.wrap (u : Int) = (u : Int) := wu64 (by omega) (by omega)
            have e9 : IntKind.u64.wrap ((c : Int) + (u : Int)) = ((c + u : Nat) : Int) := by rw [wu64 (by omega) (by omega)]; omega
            have hkn : y.length + k < x.length + 1 := by omega
            have hm : x.length + 1 - (y.length + k) = (x.length - (y.length + k)) + 1 := by omega
            have hsetl : y.length + k < ((A ++ List.replicate (x.length + 1 - (y.length + k)) 0).map lb).length := by simp; omega
            have hset : ((A ++ List.replicate (x.length + 1 - (y.length + k)) 0).map lb).set (y.length + k) (ex (.int .u32 (((c + u) % B : Nat) : Int))) = ((A ++ [(c + u) % B]) ++ List.replicate (x.length + 1 - (y.length + (k + 1))) 0).map lb := by
              rw [hm, show x.length + 1 - (y.length + (k + 1)) = x.length - (y.length + k) by omega]; exact setL0 hA
            have e13 : IntKind.i64.wrap ((k : Int) + 1) = ((k + 1 : Nat) : Int) := by rw [w64 (by omega) (by omega)]; omega
            repeat (first | refine WpD.seq ?_ | refine WpD.block ?_)
            refine WpD.reg ?_
            refine RG.S0 (LT.plain rfl (rt_bin_to rfl rfl (fun w => run_lti w _ _ _ _ _ _) (vbool b1))) ?_
            refine RG.nil (by kernel_rfl) ?_
            repeat (first | refine WpD.seq ?_ | refine WpD.block ?_)
            refine WpD.condT rfl ?_
            repeat (first | refine WpD.seq ?_ | refine WpD.block ?_)
            refine WpD.skip ?_
            repeat (first | refine WpD.seq ?_ | refine WpD.block ?_)
            refine WpD.reg ?_
            refine RG.S0 (LT.plain rfl (rt_move rfl)) ?_
            refine RG.S0 (LT.plain rfl (rt_assign rfl)) ?_
            refine RG.nil (by kernel_rfl) ?_
            repeat (first | refine WpD.seq ?_ | refine WpD.block ?_)
            refine WpD.reg ?_
            refine RG.S0 (LT.plain rfl (rt_move rfl)) ?_
            refine RG.S0 (LT.plain rfl (rt_move rfl)) ?_
            refine RG.S0 (LT.plain rfl (rt_move rfl)) ?_
            refine RG.S0 (LT.plain rfl (ru_len rfl CSlice.ok)) ?_
            refine RG.S0 (LT.plain rfl (rt_move rfl)) ?_
            refine RG.S0 (LT.plain rfl (rt_bin_to rfl rfl (fun w => run_addi w _ _ _ _ _ _) (vint e5))) ?_
            refine RG.S0 (LT.plain rfl (rc_index rfl rfl (by assumption))) ?_
            refine RG.S0 (LT.plain rfl (rc_load1 rfl rfl)) ?_
            refine RG.S0 (LT.plain rfl (rt_conv_to rfl (fun w => run_convi w CInt.ok CInt.ok _ _) (vint e8))) ?_
            refine RG.S0 (LT.plain rfl (rt_bin_to rfl rfl (fun w => run_addi w _ _ _ _ _ _) (vint e9))) ?_
            refine RG.S0 (LT.plain rfl (rt_assign rfl)) ?_
            refine RG.nil (by kernel_rfl) ?_
            repeat (first | refine WpD.seq ?_ | refine WpD.block ?_)
            refine WpD.reg ?_
            refine RG.S0 (LT.plain rfl (rt_move rfl)) ?_
            refine RG.S0 (LT.plain rfl (rt_move rfl)) ?_
            refine RG.S0 (LT.plain rfl (ru_len rfl CSlice.ok)) ?_
            refine RG.S0 (LT.plain rfl (rt_move rfl)) ?_
            refine RG.S0 (LT.plain rfl (rt_bin_to rfl rfl (fun w => run_addi w _ _ _ _ _ _) (vint e5))) ?_
            refine RG.S0 (LT.plain rfl (rt_move rfl)) ?_
            refine RG.S0 (LT.plain rfl (rt_conv_to rfl (fun w => run_convi w CInt.ok CInt.ok _ _) (vint (u32w _)))) ?_
            refine RG.S0 (LT.plain rfl (ru_index0 rfl rfl (by assumption))) ?_
            refine RG.N1 (LT.plain rfl (ru_set1 rfl rfl rfl (by assumption) (by assumption))) ?_
            refine RG.nil (by kernel_rfl) ?_
            repeat (first | refine WpD.seq ?_ | refine WpD.block ?_)
            refine WpD.reg ?_
            refine RG.S0 (LT.plain rfl (rt_move rfl)) ?_
            refine RG.S0 (LT.plain rfl (rt_bin_to rfl rfl (fun w => run_shri w _ _ _ _ _ _ _ (by first | decide | omega | assumption)) (vint (shr32 _)))) ?_
            refine RG.S0 (LT.plain rfl (rt_assign rfl)) ?_
            refine RG.nil (by kernel_rfl) ?_
            repeat (first | refine WpD.seq ?_ | refine WpD.block ?_)
            refine WpD.reg ?_
            refine RG.S0 (LT.plain rfl (rt_bin_to rfl rfl (fun w => run_addi w _ _ _ _ _ _) (vint e13))) ?_
            refine RG.S0 (LT.plain rfl (rt_move rfl)) ?_
            refine RG.nil (by kernel_rfl) ?_
            refine ⟨⟨(k + 1, A ++ [(c + u) % B], (c + u) / B), hlt, hS'⟩, ?_, by simp only; omega⟩
            refine Sub.mk ?_ ?_
            · repeat (first | exact trivial | refine ⟨⟨_, rfl, ⟨rfl, rfl⟩⟩, Option.some_ne_none _, ?_⟩ | refine ⟨⟨_, rfl, ⟨rfl, rfl, rfl, rfl⟩⟩, Option.some_ne_none _, ?_⟩ | refine ⟨⟨_, rfl, PLe.refl _⟩, trivial, ?_⟩)
            · repeat (first | exact trivial | refine ⟨⟨_, rfl, PsLe.refl _⟩, ?_⟩)
          · have b1 : decide ((k : Int) < ((x.length - y.length : Nat) : Int)) = false := decide_eq_false (by omega)
            have hkx : y.length + k = x.length := by omega
            rw [hkx] at hS hA ⊢
            obtain ⟨d1, d2⟩ := SumInv.done hS (Nat.le_refl _) hle
            have hsetl : x.length < ((A ++ List.replicate (x.length + 1 - x.length) 0).map lb).length := by simp; omega
            have hxl : x.length < x.length + 1 := by omega
            have hcB : ((c % B : Nat) : Int) = (c : Int) := by rw [B_def]; omega
            have hset : ((A ++ List.replicate (x.length + 1 - x.length) 0).map lb).set x.length (ex (.int .u32 (c : Int))) = (A ++ [c]).map lb := by
              rw [show x.length + 1 - x.length = 0 + 1 by omega, show (A ++ [c]).map lb = ((A ++ [c]) ++ List.replicate 0 0).map lb by simp]; exact setL0 hA
            have C1 := ntrim En (A ++ [c]) d1 (by simp; omega)
            rw [d2] at C1
            have hlen : (A ++ [c]).length = x.length + 1 := by simp; omega
            repeat (first | refine WpD.seq ?_ | refine WpD.block ?_)
            refine WpD.reg ?_
            refine RG.S0 (LT.plain rfl (rt_bin_to rfl rfl (fun w => run_lti w _ _ _ _ _ _) (vbool b1))) ?_
            refine RG.nil (by kernel_rfl) ?_
            repeat (first | refine WpD.seq ?_ | refine WpD.block ?_)
            refine WpD.condF rfl ?_
            repeat (first | refine WpD.seq ?_ | refine WpD.block ?_)
            refine WpD.exit ?_
            repeat (first | refine WpD.seq ?_ | refine WpD.block ?_)
            refine WpD.reg ?_
            refine RG.S0 (LT.plain rfl (rt_move rfl)) ?_
            refine RG.S0 (LT.plain rfl (rt_move rfl)) ?_
            refine RG.S0 (LT.plain rfl (ru_len rfl CSlice.ok)) ?_
            refine RG.S0 (LT.plain rfl (rt_move rfl)) ?_
            refine RG.S0 (LT.plain rfl (rt_conv_to rfl (fun w => run_convi w CInt.ok CInt.ok _ _) (vint ((u32w _).trans hcB)))) ?_
            refine RG.S0 (LT.plain rfl (ru_index0 rfl rfl (by assumption))) ?_
            refine RG.N1 (LT.plain rfl (ru_set1 rfl rfl rfl (by assumption) (by assumption))) ?_
            refine RG.nil (by kernel_rfl) ?_
            refine WpD.sub (τ := ⟨[(5, .one (mag (A ++ [c])))], []⟩) ?_ ?_
            ·
              refine Sub.pub 19 rfl rfl ?_ trivial rfl
              repeat (first | exact trivial | refine ⟨.inl ⟨⟨_, rfl, PLe.refl _⟩, trivial⟩, ?_⟩ | refine ⟨.inr ⟨_, _, _, _, rfl, rfl, by rw [← hlen]; exact arr_mag0 (by omega) d1⟩, ?_⟩)
            repeat (first | refine WpD.seq ?_ | refine WpD.block ?_)
            refine WpD.reg ?_
            refine RG.S0 (LT.plain rfl (rt_move rfl)) ?_
            refine RG.S0 (LT.plain rfl (ru_call C1 ⟨rfl, trivial⟩)) ?_
            refine RG.S0 (LT.plain rfl (rt_assign rfl)) ?_
            refine RG.nil (by kernel_rfl) ?_
            repeat (first | refine WpD.seq ?_ | refine WpD.block ?_)
            refine WpD.ret ?_
            exact ret1 rfl (.tmp rfl) (PLe.refl _)
/-- x - y in 64 bits. -/
def dif64 (x y : Nat) : Nat := if x < y then 18446744073709551616 + x - y else x - y
set_option maxHeartbeats 1000000 in
theorem nsub (a b : List Nat) (ha : a.length ≤ 549755813888) (hle : b.length ≤ a.length) (hla : Lm a) (hlb : Lm b) (hval : val b ≤ val a) : Fn Tryd.prog En 44 [mag a, mag b] (mag (digs (val a - val b))) := by
  refine fn_of_body Tryd.func44 rfl Tryd.ntmps44 rfl ?_
  intro w0 h0
  repeat (first | refine WpD.seq ?_ | refine WpD.block ?_)
  refine WpD.reg ?_
  refine RG.S0 (LT.plain rfl (rt_assign rfl)) ?_
  refine RG.nil (by kernel_rfl) ?_
  repeat (first | refine WpD.seq ?_ | refine WpD.block ?_)
  refine WpD.reg ?_
  refine RG.S0 (LT.plain rfl (rt_move rfl)) ?_
  refine RG.S0 (LT.plain rfl (ru_len rfl CSlice.ok)) ?_
  refine RG.S1 (LT.plain rfl (ru_make rfl rfl rfl rfl (by omega) (by omega))) ?_
  refine RG.S0 (LT.plain rfl (rt_assign rfl)) ?_
  refine RG.nil (by kernel_rfl) ?_
  repeat (first | refine WpD.seq ?_ | refine WpD.block ?_)
  refine WpD.reg ?_
  refine RG.S0 (LT.plain rfl (rt_assign rfl)) ?_
  refine RG.nil (by kernel_rfl) ?_
  repeat (first | refine WpD.seq ?_ | refine WpD.block ?_)
  refine WpD.reg ?_
  refine RG.S0 (LT.plain rfl (rt_move rfl)) ?_
  refine RG.S0 (LT.plain rfl (ru_len rfl CSlice.ok)) ?_
  refine RG.S0 (LT.plain rfl (rt_move rfl)) ?_
  refine RG.nil (by kernel_rfl) ?_
  repeat (first | refine WpD.seq ?_ | refine WpD.block ?_)
  refine WpD.loop (α := {p : Nat × List Nat × Nat // p.1 ≤ a.length ∧ DifInv a b p.1 p.2.1 p.2.2}) (fun p => ⟨[(0, .one (mag a)), (1, .one (mag b)), (5, .own 11 0 a.length a.length), (6, .one (ex (.int .u64 (p.1.2.2 : Int)))), (13, .one (ex (.int .i64 (a.length : Int)))), (14, .one (ex (.int .i64 (p.1.1 : Int))))], [(11, (p.1.2.1 ++ List.replicate (a.length - p.1.1) 0).map lb)]⟩) (fun p => a.length - p.1.1) ⟨(0, [], 0), Nat.zero_le _, DifInv.start a b⟩ ?_ ?_
  ·
    refine Sub.mk ?_ ⟨⟨_, rfl, PsLe.of_eq (zerosL _)⟩, trivial⟩
    repeat (first | exact trivial | refine ⟨⟨_, rfl, ⟨rfl, rfl⟩⟩, Option.some_ne_none _, ?_⟩ | refine ⟨⟨_, rfl, ⟨rfl, rfl, rfl, rfl⟩⟩, Option.some_ne_none _, ?_⟩ | refine ⟨⟨_, rfl, PLe.refl _⟩, trivial, ?_⟩)
  · rintro ⟨⟨k, A, c⟩, hk, hS⟩
    simp only at hk hS
    dsimp only
    obtain ⟨hA, hAl, hc, _⟩ := id hS
    by_cases hlt : k < a.length
    · obtain ⟨u, hu⟩ : ∃ u, a[k]? = some u := ⟨_, List.getElem?_eq_getElem (by omega)⟩
      have huB := hla.get hu
      rw [B_def] at huB
      obtain ⟨y, hy⟩ : ∃ y, b[k]?.getD 0 = y := ⟨_, rfl⟩
      have hyB : y < B := by rw [← hy]; exact getD_lt hlb k
      rw [B_def] at hyB
      have hS' := DifInv.step hla hlb hS
      rw [hu, hy, Option.getD_some] at hS'
      obtain ⟨tt, htt⟩ : ∃ tt, dif64 u (c + y) = tt := ⟨_, rfl⟩
      have t1 : tt % B = difD u (c + y) := by rw [← htt]; unfold dif64 difD; rw [B_def]; split <;> omega
      have t2 : (tt : Int).fdiv (2 ^ (min (63 : Int).toNat IntKind.u64.bits)) = ((difB u (c + y) : Nat) : Int) := by
        show (tt : Int).fdiv (2 ^ 63) = _
        rw [Int.fdiv_eq_ediv_of_nonneg _ (by decide), ← htt]
        unfold dif64 difB
        split <;> omega
      have b1 : decide ((k : Int) < (a.length : Int)) = true := decide_eq_true (by omega)
      have e4 : IntKind.u64.wrap (u : Int) = (u : Int) := wu64 (by omega) (by omega)
      have hm : a.length - k = (a.length - (k + 1)) + 1 := by omega
      have hsetl : k < ((A ++ List.replicate (a.length - k) 0).map lb).length := by simp; omega
      have hset : ((A ++ List.replicate (a.length - k) 0).map lb).set k (ex (.int .u32 ((difD u (c + y) : Nat) : Int))) = ((A ++ [difD u (c + y)]) ++ List.replicate (a.length - (k + 1)) 0).map lb := by
        rw [hm]; exact setL0 hA
      have e13 : IntKind.i64.wrap ((k : Int) + 1) = ((k + 1 : Nat) : Int) := by rw [w64 (by omega) (by omega)]; omega
      repeat (first | refine WpD.seq ?_ | refine WpD.block ?_)
      refine WpD.reg ?_
      refine RG.S0 (LT.plain rfl (rt_bin_to rfl rfl (fun w => run_lti w _ _ _ _ _ _) (vbool b1))) ?_
      refine RG.nil (by kernel_rfl) ?_
      repeat (first | refine WpD.seq ?_ | refine WpD.block ?_)
      refine WpD.condT rfl ?_
      repeat (first | refine WpD.seq ?_ | refine WpD.block ?_)
      refine WpD.skip ?_
      repeat (first | refine WpD.seq ?_ | refine WpD.block ?_)
      refine WpD.reg ?_
      refine RG.S0 (LT.plain rfl (rt_move rfl)) ?_
      refine RG.S0 (LT.plain rfl (rt_assign rfl)) ?_
      refine RG.nil (by kernel_rfl) ?_
      repeat (first | refine WpD.seq ?_ | refine WpD.block ?_)
      refine WpD.reg ?_
      refine RG.S0 (LT.plain rfl (rt_move rfl)) ?_
      refine RG.S0 (LT.plain rfl (rt_move rfl)) ?_
      refine RG.S0 (LT.plain rfl (rc_index rfl rfl (by assumption))) ?_
      refine RG.S0 (LT.plain rfl (rc_load1 rfl rfl)) ?_
      refine RG.S0 (LT.plain rfl (rt_conv_to rfl (fun w => run_convi w CInt.ok CInt.ok _ _) (vint e4))) ?_
      refine RG.S0 (LT.plain rfl (rt_move rfl)) ?_
      refine RG.S0 (LT.plain rfl (rt_bin rfl rfl (fun w => run_subi w _ _ _ _ _ _))) ?_
      refine RG.S0 (LT.plain rfl (rt_assign rfl)) ?_
      refine RG.nil (by kernel_rfl) ?_
      refine WpD.cut (α := Unit) (fun _ => ⟨[(0, .one (mag a)), (1, .one (mag b)), (5, .own 11 0 a.length a.length), (7, .one (ex (.int .i64 (k : Int)))), (8, .one (ex (.int .u64 (tt : Int)))), (13, .one (ex (.int .i64 (a.length : Int)))), (14, .one (ex (.int .i64 (k : Int))))], [(11, (A ++ List.replicate (a.length - k) 0).map lb)]⟩) ?_ ?_
      · by_cases hkb : k < b.length
        · have b2 : decide ((k : Int) < (b.length : Int)) = true := decide_eq_true (by omega)
          have hy' : b[k]? = some y := by rw [← hy, List.getElem?_eq_getElem hkb]; rfl
          have e5 : IntKind.u64.wrap (y : Int) = (y : Int) := wu64 (by omega) (by omega)
          have e6 : IntKind.u64.wrap (IntKind.u64.wrap ((u : Int) - (c : Int)) - (y : Int)) = (tt : Int) := by
            rw [IntKind.wrap_u64, IntKind.wrap_u64, ← htt]; unfold dif64; split <;> omega
          repeat (first | refine WpD.seq ?_ | refine WpD.block ?_)
          refine WpD.reg ?_
          refine RG.S0 (LT.plain rfl (rt_move rfl)) ?_
          refine RG.S0 (LT.plain rfl (rt_move rfl)) ?_
          refine RG.S0 (LT.plain rfl (ru_len rfl CSlice.ok)) ?_
          refine RG.S0 (LT.plain rfl (rt_bin_to rfl rfl (fun w => run_lti w _ _ _ _ _ _) (vbool b2))) ?_
          refine RG.nil (by kernel_rfl) ?_
          repeat (first | refine WpD.seq ?_ | refine WpD.block ?_)
          refine WpD.condT rfl ?_
          repeat (first | refine WpD.seq ?_ | refine WpD.block ?_)
          refine WpD.reg ?_
          refine RG.S0 (LT.plain rfl (rt_move rfl)) ?_
          refine RG.S0 (LT.plain rfl (rt_move rfl)) ?_
          refine RG.S0 (LT.plain rfl (rt_move rfl)) ?_
          refine RG.S0 (LT.plain rfl (rc_index rfl rfl (by assumption))) ?_
          refine RG.S0 (LT.plain rfl (rc_load1 rfl rfl)) ?_
          refine RG.S0 (LT.plain rfl (rt_conv_to rfl (fun w => run_convi w CInt.ok CInt.ok _ _) (vint e5))) ?_
          refine RG.S0 (LT.plain rfl (rt_bin_to rfl rfl (fun w => run_subi w _ _ _ _ _ _) (vint e6))) ?_
          refine RG.S0 (LT.plain rfl (rt_assign rfl)) ?_
          refine RG.nil (by kernel_rfl) ?_
          refine ⟨(), ?_⟩
          refine Sub.mk ?_ ?_
          · repeat (first | exact trivial | refine ⟨⟨_, rfl, ⟨rfl, rfl⟩⟩, Option.some_ne_none _, ?_⟩ | refine ⟨⟨_, rfl, ⟨rfl, rfl, rfl, rfl⟩⟩, Option.some_ne_none _, ?_⟩ | refine ⟨⟨_, rfl, PLe.refl _⟩, trivial, ?_⟩)
          · repeat (first | exact trivial | refine ⟨⟨_, rfl, PsLe.refl _⟩, ?_⟩)
        · have b2 : decide ((k : Int) < (b.length : Int)) = false := decide_eq_false (by omega)
          have hy0 : y = 0 := by rw [← hy, List.getElem?_eq_none (by omega)]; rfl
          have e6 : IntKind.u64.wrap ((u : Int) - (c : Int)) = (tt : Int) := by
            rw [IntKind.wrap_u64, ← htt, hy0]; unfold dif64; split <;> omega
          rw [e6]
          repeat (first | refine WpD.seq ?_ | refine WpD.block ?_)
          refine WpD.reg ?_
          refine RG.S0 (LT.plain rfl (rt_move rfl)) ?_
          refine RG.S0 (LT.plain rfl (rt_move rfl)) ?_
          refine RG.S0 (LT.plain rfl (ru_len rfl CSlice.ok)) ?_
          refine RG.S0 (LT.plain rfl (rt_bin_to rfl rfl (fun w => run_lti w _ _ _ _ _ _) (vbool b2))) ?_
          refine RG.nil (by kernel_rfl) ?_
          repeat (first | refine WpD.seq ?_ | refine WpD.block ?_)
          refine WpD.condF rfl ?_
          repeat (first | refine WpD.seq ?_ | refine WpD.block ?_)
          refine WpD.skip ?_
          refine ⟨(), ?_⟩
          refine Sub.mk ?_ ?_
          · repeat (first | exact trivial | refine ⟨⟨_, rfl, ⟨rfl, rfl⟩⟩, Option.some_ne_none _, ?_⟩ | refine ⟨⟨_, rfl, ⟨rfl, rfl, rfl, rfl⟩⟩, Option.some_ne_none _, ?_⟩ | refine ⟨⟨_, rfl, PLe.refl _⟩, trivial, ?_⟩)
          · repeat (first | exact trivial | refine ⟨⟨_, rfl, PsLe.refl _⟩, ?_⟩)
      · rintro ⟨⟩
        have e3 : IntKind.u32.wrap (tt : Int) = ((difD u (c + y) : Nat) : Int) := by rw [u32w, t1]
        repeat (first | refine WpD.seq ?_ | refine WpD.block ?_)
        refine WpD.reg ?_
        refine RG.S0 (LT.plain rfl (rt_move rfl)) ?_
        refine RG.S0 (LT.plain rfl (rt_move rfl)) ?_
        refine RG.S0 (LT.plain rfl (rt_move rfl)) ?_
        refine RG.S0 (LT.plain rfl (rt_conv_to rfl (fun w => run_convi w CInt.ok CInt.ok _ _) (vint e3))) ?_
        refine RG.S0 (LT.plain rfl (ru_index0 rfl rfl (by assumption))) ?_
        refine RG.N1 (LT.plain rfl (ru_set1 rfl rfl rfl (by assumption) (by assumption))) ?_
        refine RG.nil (by kernel_rfl) ?_
        repeat (first | refine WpD.seq ?_ | refine WpD.block ?_)
        refine WpD.reg ?_
        refine RG.S0 (LT.plain rfl (rt_move rfl)) ?_
        refine RG.S0 (LT.plain rfl (rt_bin_to rfl rfl (fun w => run_shri w _ _ _ _ _ _ _ (by first | decide | omega | assumption)) (vint t2))) ?_
        refine RG.S0 (LT.plain rfl (rt_assign rfl)) ?_
        refine RG.nil (by kernel_rfl) ?_
        repeat (first | refine WpD.seq ?_ | refine WpD.block ?_)
        refine WpD.reg ?_
        refine RG.S0 (LT.plain rfl (rt_bin_to rfl rfl (fun w => run_addi w _ _ _ _ _ _) (vint e13))) ?_
        refine RG.S0 (LT.plain rfl (rt_move rfl)) ?_
        refine RG.nil (by kernel_rfl) ?_
        refine ⟨⟨(k + 1, A ++ [difD u (c + y)], difB u (c + y)), hlt, hS'⟩, ?_, by simp only; omega⟩
        refine Sub.mk ?_ ?_
        · repeat (first | exact trivial | refine ⟨⟨_, rfl, ⟨rfl, rfl⟩⟩, Option.some_ne_none _, ?_⟩ | refine ⟨⟨_, rfl, ⟨rfl, rfl, rfl, rfl⟩⟩, Option.some_ne_none _, ?_⟩ | refine ⟨⟨_, rfl, PLe.refl _⟩, trivial, ?_⟩)
        · repeat (first | exact trivial | refine ⟨⟨_, rfl, PsLe.refl _⟩, ?_⟩)
    · have b1 : decide ((k : Int) < (a.length : Int)) = false := decide_eq_false (by omega)
      have hka : k = a.length := by omega
      subst hka
      obtain ⟨d1, d2⟩ := DifInv.done hS (Nat.le_refl _) hle hval
      have C1 := ntrim En A d1 (by omega)
      rw [d2] at C1
      rw [Nat.sub_self, List.replicate_zero, List.append_nil]
      repeat (first | refine WpD.seq ?_ | refine WpD.block ?_)
      refine WpD.reg ?_
      refine RG.S0 (LT.plain rfl (rt_bin_to rfl rfl (fun w => run_lti w _ _ _ _ _ _) (vbool b1))) ?_
      refine RG.nil (by kernel_rfl) ?_
      repeat (first | refine WpD.seq ?_ | refine WpD.block ?_)
      refine WpD.condF rfl ?_
      repeat (first | refine WpD.seq ?_ | refine WpD.block ?_)
      refine WpD.exit ?_
      refine WpD.sub (τ := ⟨[(5, .one (mag A))], []⟩) ?_ ?_
      ·
        refine Sub.pub 11 rfl rfl ?_ trivial rfl
        repeat (first | exact trivial | refine ⟨.inl ⟨⟨_, rfl, PLe.refl _⟩, trivial⟩, ?_⟩ | refine ⟨.inr ⟨_, _, _, _, rfl, rfl, by rw [← hA]; exact arr_mag0 (Nat.le_refl _) d1⟩, ?_⟩)
      repeat (first | refine WpD.seq ?_ | refine WpD.block ?_)
      refine WpD.reg ?_
      refine RG.S0 (LT.plain rfl (rt_move rfl)) ?_
      refine RG.S0 (LT.plain rfl (ru_call C1 ⟨rfl, trivial⟩)) ?_
      refine RG.S0 (LT.plain rfl (rt_assign rfl)) ?_
      refine RG.nil (by kernel_rfl) ?_
      repeat (first | refine WpD.seq ?_ | refine WpD.block ?_)
      refine WpD.ret ?_
      exact ret1 rfl (.tmp rfl) (PLe.refl _)
end
end Go.Proofs.YtnhbdldchoepfaaDoor

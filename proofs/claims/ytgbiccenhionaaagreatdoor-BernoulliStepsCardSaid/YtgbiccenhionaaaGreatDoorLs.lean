/- Chapter 31: Steps. -/
import Derived.Test.YtgbiccenhionaaaGreatDoorLe
set_option maxRecDepth 3000
namespace Go.Proofs.YtgbiccenhionaaaGreatDoor
open Go.RowKit Limb Num
theorem step_sub {u v p : Rat} (h : u = v + p) : u - v = p := by subst h; grind
set_option maxHeartbeats 1000000 in
theorem lsteps (k a b : Int) (k1 : 0 ≤ k) (k2 : k ≤ 255) (a1 : -32768 ≤ a) (a2 : a ≤ 32767) (b1 : 0 ≤ b) (b2 : b ≤ 255) : Fn Tryz.prog TabE 3 [ex (.int .u8 k), ex (.int .i16 a), ex (.int .u8 b)] (ex (.bool true)) := by
  obtain ⟨t, ht⟩ : ∃ t : Nat, k % 20 = (t : Int) := ⟨(k % 20).toNat, by omega⟩
  have hn2 : t + 1 ≤ 20 := by omega
  have w1 : IntKind.i64.wrap k = k := w64 (by omega) (by omega)
  have w2 : k.tmod 20 = (t : Int) := by rw [Int.tmod_eq_emod_of_nonneg k1]; exact ht
  have w2' : IntKind.i64.wrap (1 + (t : Int)) = ((t + 1 : Nat) : Int) := by rw [w64 (by omega) (by omega)]; omega
  have w3 : IntKind.i64.wrap a = a := w64 (by omega) (by omega)
  have w4 : IntKind.i64.wrap b = b := w64 (by omega) (by omega)
  have w5 : IntKind.i64.wrap (1 + b) = 1 + b := w64 (by omega) (by omega)
  have w6 : IntKind.i64.wrap (((t + 1 : Nat) : Int) - 1) = (t : Int) := by rw [w64 (by omega) (by omega)]; omega
  have C1 := gratio TabE a (1 + b) (by omega) (by omega) (by omega) (by omega) (by omega)
  have Sx := sz_ratio (a := a) (b := 1 + b) (by omega) (by omega) (by omega) (by omega) (by omega)
  generalize Rat.divInt a (1 + b) = x at *
  have S1 := sz_z (z := 1) (by omega) (by omega)
  have C2 := qsmall TabE 1 (by omega) (by omega)
  have C3 := kqadd TabE x ((1 : Int) : Rat) (Sx.mono (by omega)) (S1.mono (by omega))
  rw [show ((1 : Int) : Rat) = 1 from rfl] at C2 C3 S1
  have Sy : Sz 5 (x + 1) := szq_add Sx S1
  have C4 := kbpoly TabE (t + 1) (x + 1) hn2 (Sy.mono (by omega))
  have C5 := kbpoly TabE (t + 1) x hn2 (Sx.mono (by omega))
  have Sv := pv_sz hn2 Sx
  have Sw := pv_sz hn2 Sy
  have C6 := qpow TabE x t (Sx.mono (by omega)) (by omega)
  have Sp := szq_pow Sx t
  have Sn := sz_z (z := ((t + 1 : Nat) : Int)) (by omega) (by omega)
  have C7 := krsub TabE (pv (t + 1) (x + 1)) (pv (t + 1) x) (Sw.mono (by omega)) (Sv.mono (by omega))
  have hst : pv (t + 1) (x + 1) - pv (t + 1) x = (((t + 1 : Nat) : Int) : Rat) * x ^ t := step_sub (pv_step (by omega) hn2 x)
  have C8 := qsmall TabE ((t + 1 : Nat) : Int) (by omega) (by omega)
  have C9 := kqmul TabE (((t + 1 : Nat) : Int) : Rat) (x ^ t) (Sn.mono (by omega)) (Sp.mono (by omega))
  have hsz : Sz 67108860 ((((t + 1 : Nat) : Int) : Rat) * x ^ t) := (szq_mul Sn Sp).mono (by omega)
  have C10 := kqcmp TabE ((((t + 1 : Nat) : Int) : Rat) * x ^ t) ((((t + 1 : Nat) : Int) : Rat) * x ^ t) hsz hsz
  rw [rat_sub_zero rfl] at C10
  rw [hst] at C7
  refine fn_of_body Tryz.func3 rfl Tryz.ntmps3 rfl ?_
  intro w0 h0
  repeat (first | refine js ?_ | refine jb ?_)
  refine jr ?_
  refine ja rfl ?_
  refine RG.nil (by kernel_rfl) ?_
  repeat (first | refine js ?_ | refine jb ?_)
  refine jr ?_
  refine jm rfl ?_
  refine jS (rt_conv_to rfl (fun w => run_convi w CInt.ok CInt.ok _ _) (vint w1)) ?_
  refine jS (rt_bin_to rfl rfl (fun w => run_remi w _ _ _ _ _ _ (by first | decide | omega | assumption)) (vint w2)) ?_
  refine jS (rt_bin_to rfl rfl (fun w => run_addi w _ _ _ _ _ _) (vint w2')) ?_
  refine ja rfl ?_
  refine RG.nil (by kernel_rfl) ?_
  repeat (first | refine js ?_ | refine jb ?_)
  refine jr ?_
  refine jm rfl ?_
  refine jS (rt_conv_to rfl (fun w => run_convi w CInt.ok CInt.ok _ _) (vint w3)) ?_
  refine jm rfl ?_
  refine jS (rt_conv_to rfl (fun w => run_convi w CInt.ok CInt.ok _ _) (vint w4)) ?_
  refine jS (rt_bin_to rfl rfl (fun w => run_addi w _ _ _ _ _ _) (vint w5)) ?_
  refine jS (ru_call C1 ⟨rfl, rfl, trivial⟩) ?_
  refine jT (ru_alloc rfl rfl rfl) ?_
  refine jO (ru_storeR rfl rfl rfl rfl rfl rfl) ?_
  refine RG.nil (by kernel_rfl) ?_
  repeat (first | refine js ?_ | refine jb ?_)
  refine jr ?_
  refine jm rfl ?_
  refine jS (ru_loadR rfl rfl rfl rfl) ?_
  refine jS (ru_call C2 ⟨rfl, trivial⟩) ?_
  refine jS (ru_call C3 ⟨rfl, rfl, trivial⟩) ?_
  refine jS (ru_call C4 ⟨rfl, rfl, trivial⟩) ?_
  refine jm rfl ?_
  refine jS (rt_extract rfl rfl) ?_
  refine jS (rt_extract rfl rfl) ?_
  refine jT (ru_alloc rfl rfl rfl) ?_
  refine jO (ru_storeR rfl rfl rfl rfl rfl rfl) ?_
  refine ja rfl ?_
  refine RG.nil (by kernel_rfl) ?_
  repeat (first | refine js ?_ | refine jb ?_)
  refine jr ?_
  refine jm rfl ?_
  refine jS (ru_loadR rfl rfl rfl rfl) ?_
  refine jS (ru_call C5 ⟨rfl, rfl, trivial⟩) ?_
  refine jm rfl ?_
  refine jS (rt_extract rfl rfl) ?_
  refine jS (rt_extract rfl rfl) ?_
  refine jT (ru_alloc rfl rfl rfl) ?_
  refine jO (ru_storeR rfl rfl rfl rfl rfl rfl) ?_
  refine ja rfl ?_
  refine RG.nil (by kernel_rfl) ?_
  repeat (first | refine js ?_ | refine jb ?_)
  refine jr ?_
  refine jS (ru_loadR rfl rfl rfl rfl) ?_
  refine jm rfl ?_
  refine jS (rt_bin_to rfl rfl (fun w => run_subi w _ _ _ _ _ _) (vint w6)) ?_
  refine jS (ru_call C6 ⟨rfl, rfl, trivial⟩) ?_
  refine jm rfl ?_
  refine jS (rt_extract rfl rfl) ?_
  refine jS (rt_extract rfl rfl) ?_
  refine jT (ru_alloc rfl rfl rfl) ?_
  refine jO (ru_storeR rfl rfl rfl rfl rfl rfl) ?_
  refine ja rfl ?_
  refine RG.nil (by kernel_rfl) ?_
  repeat (first | refine js ?_ | refine jb ?_)
  repeat (first | refine js ?_ | refine jb ?_)
  refine jr ?_
  refine jm rfl ?_
  refine jS (rt_bin rfl rfl (fun w => run_eqi w _ _ _ _ _ _)) ?_
  refine jm rfl ?_
  first | refine RG.S0 (LT.run rfl rfl rfl (rt_move rfl)) ?_ | refine RG.S0 (LT.skip rfl rfl rfl) ?_
  first | refine RG.S0 (LT.run rfl rfl rfl (rt_bin rfl rfl (fun w => run_eqi w _ _ _ _ _ _))) ?_ | refine RG.S0 (LT.skip rfl rfl rfl) ?_
  first | refine jS (rt_pick_true rfl rfl) ?_ | refine jS (rt_pick_false rfl rfl) ?_
  refine jm rfl ?_
  first | refine RG.S0 (LT.run rfl rfl rfl (ru_loadR rfl rfl rfl rfl)) ?_ | refine RG.S0 (LT.skip rfl rfl rfl) ?_
  first | refine RG.S0 (LT.run rfl rfl rfl (ru_loadR rfl rfl rfl rfl)) ?_ | refine RG.S0 (LT.skip rfl rfl rfl) ?_
  first | refine RG.S0 (LT.run rfl rfl rfl (ru_call C7 ⟨rfl, rfl, trivial⟩)) ?_ | refine RG.S0 (LT.skip rfl rfl rfl) ?_
  first | refine RG.S0 (LT.run rfl rfl rfl (rt_move rfl)) ?_ | refine RG.S0 (LT.skip rfl rfl rfl) ?_
  first | refine RG.S0 (LT.run rfl rfl rfl (ru_call C8 ⟨rfl, trivial⟩)) ?_ | refine RG.S0 (LT.skip rfl rfl rfl) ?_
  first | refine RG.S0 (LT.run rfl rfl rfl (ru_loadR rfl rfl rfl rfl)) ?_ | refine RG.S0 (LT.skip rfl rfl rfl) ?_
  first | refine RG.S0 (LT.run rfl rfl rfl (ru_call C9 ⟨rfl, rfl, trivial⟩)) ?_ | refine RG.S0 (LT.skip rfl rfl rfl) ?_
  first | refine RG.S0 (LT.run rfl rfl rfl (ru_call C10 ⟨rfl, rfl, trivial⟩)) ?_ | refine RG.S0 (LT.skip rfl rfl rfl) ?_
  first | refine RG.S0 (LT.run rfl rfl rfl (rt_bin rfl rfl (fun w => run_eqi w _ _ _ _ _ _))) ?_ | refine RG.S0 (LT.skip rfl rfl rfl) ?_
  first | refine jS (rt_pick_true rfl rfl) ?_ | refine jS (rt_pick_false rfl rfl) ?_
  refine jm rfl ?_
  first | refine RG.S0 (LT.run rfl rfl rfl (ru_call lawake trivial)) ?_ | refine RG.S0 (LT.skip rfl rfl rfl) ?_
  first | refine jS (rt_pick_true rfl rfl) ?_ | refine jS (rt_pick_false rfl rfl) ?_
  refine ja rfl ?_
  refine RG.nil (by kernel_rfl) ?_
  repeat (first | refine js ?_ | refine jb ?_)
  refine WpD.ret ?_
  exact ret1 rfl (.tmp rfl) (PLe.refl _)
theorem law_BernoulliSteps (k a b : Int) (w : World) (wk : (Lit.int .u8 k).wf = true) (wa : (Lit.int .i16 a).wf = true) (wb : (Lit.int .u8 b).wf = true) (ht : Tab w) :
    Calls Tryz.prog 3 #[.int .u8 k, .int .i16 a, .int .u8 b] w fun e w' => e = .returned (.bool true) ∧ Below w.heap.size w w' := by
  obtain ⟨k1, k2⟩ := bounds_u8 wk
  obtain ⟨a1, a2⟩ := bounds_i16 wa
  obtain ⟨b1, b2⟩ := bounds_u8 wb
  exact fn_true (lsteps k a b (by omega) (by omega) (by omega) (by omega) (by omega) (by omega)) w ht ⟨rfl, rfl, rfl, trivial⟩
end Go.Proofs.YtgbiccenhionaaaGreatDoor

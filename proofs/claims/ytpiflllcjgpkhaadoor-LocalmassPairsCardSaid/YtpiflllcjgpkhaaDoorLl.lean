/- Statements of chapter 32: Diagonal, Standard, Pairs. -/
import Derived.Test.YtpiflllcjgpkhaaDoorMw
import Derived.OpenShut
set_option maxRecDepth 3000
namespace Go.Proofs.YtpiflllcjgpkhaaDoor
open Go.RowKit Limb Num
theorem cmpQ_self (a : Rat) : cmpQ a a = 0 := by unfold cmpQ cmpZ; simp
theorem beq_selfZ (x : Int) : (x == x) = true := by simp
theorem od8_sm : ∀ j : Fin 8, smP (od8 j.1 : Int) = true := by decide +kernel
theorem mDiag_ok {p : Int} (n : Nat) (c : Int) (hp : smP p = true) (h : psb (n : Int) c = true) : Fn Tryd.prog TabD 5 [ex (.int .i64 p), aggP [ex (.int .i64 (n : Int)), ex (.int .i64 c)]] (tupP [qC (dia p n c), ex (.int .i64 0)]) := by
  have C1 := (mDiagonal p (n : Int) c).tab
  unfold diaA at C1
  rwa [if_pos hp, if_pos h, Int.toNat_natCast] at C1
set_option maxHeartbeats 1000000 in
theorem lpairs (k s : Int) (k1 : 0 ≤ k) (k2 : k ≤ 255) (s1 : 0 ≤ s) (s2 : s ≤ 255) : Fn Tryd.prog TabD 3 [ex (.int .u8 k), ex (.int .u8 s)] (ex (.bool true)) := by
  have P1 := fodd TabD k k1 k2
  have A := awake32
  have hp := od8_sm ⟨(k % 8).toNat, by omega⟩
  dsimp only at hp
  generalize (od8 (k % 8).toNat : Int) = p at *
  obtain ⟨p1, p2, _⟩ := smP_bd hp
  obtain ⟨m, hm⟩ : ∃ m : Nat, s % 4 = (m : Int) := ⟨(s % 4).toNat, by omega⟩
  have w1 : IntKind.i64.wrap s = s := w64 (by omega) (by omega)
  have w2 : s.tmod 4 = (m : Int) := by rw [Int.tmod_eq_emod_of_nonneg s1]; exact hm
  have w3 : IntKind.i64.wrap (2 * (m : Int)) = 2 * (m : Int) := w64 (by omega) (by omega)
  have w4 : IntKind.i64.wrap (2 + 2 * (m : Int)) = ((2 * m + 2 : Nat) : Int) := by rw [w64 (by omega) (by omega)]; omega
  have w5 : IntKind.i64.wrap (((2 * m + 2 : Nat) : Int) - 1) = ((2 * m + 1 : Nat) : Int) := by rw [w64 (by omega) (by omega)]; omega
  have w6 : IntKind.i64.wrap (((2 * m + 2 : Nat) : Int) + 1) = ((2 * m + 3 : Nat) : Int) := by rw [w64 (by omega) (by omega)]; omega
  have C1 := mDiag_ok (p := p) (2 * m + 2) 1 hp (decide_eq_true (by omega))
  have C2 := mDiag_ok (p := p) (2 * m + 2) (-1) hp (decide_eq_true (by omega))
  have C3 := mDiag_ok (p := p) (2 * m + 1) 0 hp (decide_eq_true (by omega))
  have C4 := mDiag_ok (p := p) (2 * m + 3) 0 hp (decide_eq_true (by omega))
  have S1 := sz_dia p1 p2 (c := 1) (by omega) (by omega) (n := 2 * m + 2) (by omega)
  have S2 := sz_dia p1 p2 (c := -1) (by omega) (by omega) (n := 2 * m + 2) (by omega)
  have S3 := sz_dia p1 p2 (c := 0) (by omega) (by omega) (n := 2 * m + 1) (by omega)
  have S4 := sz_dia p1 p2 (c := 0) (by omega) (by omega) (n := 2 * m + 3) (by omega)
  have C5 := krmul TabD (dia p (2 * m + 2) 1) (dia p (2 * m + 2) (-1)) (S1.mono (by omega)) (S2.mono (by omega))
  have C6 := krmul TabD (dia p (2 * m + 1) 0) (dia p (2 * m + 3) 0) (S3.mono (by omega)) (S4.mono (by omega))
  have S5 := (szq_mul S3 S4).mono (show 200 + 200 ≤ 1073741824 by omega)
  rw [dia_pairs p1] at C5
  have C7 := krcmp TabD (dia p (2 * m + 1) 0 * dia p (2 * m + 3) 0) (dia p (2 * m + 1) 0 * dia p (2 * m + 3) 0) S5 S5
  rw [cmpQ_self] at C7
  refine fn_of_body Tryd.func3 rfl Tryd.ntmps3 rfl ?_
  intro w0 h0
  repeat (first | refine js ?_ | refine jb ?_)
  refine jr ?_
  refine ja rfl ?_
  refine RG.nil (by kernel_rfl) ?_
  repeat (first | refine js ?_ | refine jb ?_)
  refine jr ?_
  refine jm rfl ?_
  refine jS (ru_call P1 ⟨rfl, trivial⟩) ?_
  refine jm rfl ?_
  refine jS (rt_conv_to rfl (fun w => run_convi w CInt.ok CInt.ok _ _) (vint w1)) ?_
  refine jS (rt_bin_to rfl rfl (fun w => run_remi w _ _ _ _ _ _ (by first | decide | omega | assumption)) (vint w2)) ?_
  refine jS (rt_bin_to rfl rfl (fun w => run_muli w _ _ _ _ _ _) (vint w3)) ?_
  refine jS (rt_bin_to rfl rfl (fun w => run_addi w _ _ _ _ _ _) (vint w4)) ?_
  refine ja rfl ?_
  refine ja rfl ?_
  refine RG.nil (by kernel_rfl) ?_
  repeat (first | refine js ?_ | refine jb ?_)
  refine jr ?_
  refine jm rfl ?_
  refine jm rfl ?_
  refine jS (ru_build (ps := [(_, _), (_, _)]) ⟨rfl, Part.c rfl, rfl, Part.c rfl, trivial⟩ rfl) ?_
  refine jS (ru_call C1 ⟨rfl, rfl, trivial⟩) ?_
  refine jm rfl ?_
  refine jS (rt_extract rfl rfl) ?_
  refine jS (rt_extract rfl rfl) ?_
  refine jT (ru_alloc rfl rfl rfl) ?_
  refine jO (ru_storeR rfl rfl rfl rfl rfl rfl) ?_
  refine ja rfl ?_
  refine RG.nil (by kernel_rfl) ?_
  repeat (first | refine js ?_ | refine jb ?_)
  refine jr ?_
  refine jm rfl ?_
  refine jm rfl ?_
  refine jS (ru_build (ps := [(_, _), (_, _)]) ⟨rfl, Part.c rfl, rfl, Part.c rfl, trivial⟩ rfl) ?_
  refine jS (ru_call C2 ⟨rfl, rfl, trivial⟩) ?_
  refine jm rfl ?_
  refine jS (rt_extract rfl rfl) ?_
  refine jS (rt_extract rfl rfl) ?_
  refine jT (ru_alloc rfl rfl rfl) ?_
  refine jO (ru_storeR rfl rfl rfl rfl rfl rfl) ?_
  refine ja rfl ?_
  refine RG.nil (by kernel_rfl) ?_
  repeat (first | refine js ?_ | refine jb ?_)
  refine jr ?_
  refine jm rfl ?_
  refine jm rfl ?_
  refine jS (rt_bin_to rfl rfl (fun w => run_subi w _ _ _ _ _ _) (vint w5)) ?_
  refine jS (ru_build (ps := [(_, _)]) ⟨rfl, Part.c rfl, trivial⟩ rfl) ?_
  refine jS (ru_call C3 ⟨rfl, rfl, trivial⟩) ?_
  refine jm rfl ?_
  refine jS (rt_extract rfl rfl) ?_
  refine jS (rt_extract rfl rfl) ?_
  refine jT (ru_alloc rfl rfl rfl) ?_
  refine jO (ru_storeR rfl rfl rfl rfl rfl rfl) ?_
  refine ja rfl ?_
  refine RG.nil (by kernel_rfl) ?_
  repeat (first | refine js ?_ | refine jb ?_)
  refine jr ?_
  refine jm rfl ?_
  refine jm rfl ?_
  refine jS (rt_bin_to rfl rfl (fun w => run_addi w _ _ _ _ _ _) (vint w6)) ?_
  refine jS (ru_build (ps := [(_, _)]) ⟨rfl, Part.c rfl, trivial⟩ rfl) ?_
  refine jS (ru_call C4 ⟨rfl, rfl, trivial⟩) ?_
  refine jm rfl ?_
  refine jS (rt_extract rfl rfl) ?_
  refine jS (rt_extract rfl rfl) ?_
  refine jT (ru_alloc rfl rfl rfl) ?_
  refine jO (ru_storeR rfl rfl rfl rfl rfl rfl) ?_
  refine ja rfl ?_
  refine RG.nil (by kernel_rfl) ?_
  repeat (first | refine js ?_ | refine jb ?_)
  refine jr ?_
  refine jm rfl ?_
  refine jS (rt_bin rfl rfl (fun w => run_eqi w _ _ _ _ _ _)) ?_
  refine jm rfl ?_
  first | refine RG.S0 (LT.run rfl rfl rfl (rt_move rfl)) ?_ | refine RG.S0 (LT.skip rfl rfl rfl) ?_
  first | refine RG.S0 (LT.run rfl rfl rfl (rt_bin rfl rfl (fun w => run_eqi w _ _ _ _ _ _))) ?_ | refine RG.S0 (LT.skip rfl rfl rfl) ?_
  first | refine jS (rt_pick_true rfl rfl) ?_ | refine jS (rt_pick_false rfl rfl) ?_
  refine jm rfl ?_
  first | refine RG.S0 (LT.run rfl rfl rfl (rt_move rfl)) ?_ | refine RG.S0 (LT.skip rfl rfl rfl) ?_
  first | refine RG.S0 (LT.run rfl rfl rfl (rt_bin rfl rfl (fun w => run_eqi w _ _ _ _ _ _))) ?_ | refine RG.S0 (LT.skip rfl rfl rfl) ?_
  first | refine jS (rt_pick_true rfl rfl) ?_ | refine jS (rt_pick_false rfl rfl) ?_
  refine jm rfl ?_
  first | refine RG.S0 (LT.run rfl rfl rfl (rt_move rfl)) ?_ | refine RG.S0 (LT.skip rfl rfl rfl) ?_
  first | refine RG.S0 (LT.run rfl rfl rfl (rt_bin rfl rfl (fun w => run_eqi w _ _ _ _ _ _))) ?_ | refine RG.S0 (LT.skip rfl rfl rfl) ?_
  first | refine jS (rt_pick_true rfl rfl) ?_ | refine jS (rt_pick_false rfl rfl) ?_
  refine jm rfl ?_
  first | refine RG.S0 (LT.run rfl rfl rfl (ru_loadR rfl rfl rfl rfl)) ?_ | refine RG.S0 (LT.skip rfl rfl rfl) ?_
  first | refine RG.S0 (LT.run rfl rfl rfl (ru_loadR rfl rfl rfl rfl)) ?_ | refine RG.S0 (LT.skip rfl rfl rfl) ?_
  first | refine RG.S0 (LT.run rfl rfl rfl (ru_call C5 ⟨rfl, rfl, trivial⟩)) ?_ | refine RG.S0 (LT.skip rfl rfl rfl) ?_
  first | refine RG.S0 (LT.run rfl rfl rfl (ru_loadR rfl rfl rfl rfl)) ?_ | refine RG.S0 (LT.skip rfl rfl rfl) ?_
  first | refine RG.S0 (LT.run rfl rfl rfl (ru_loadR rfl rfl rfl rfl)) ?_ | refine RG.S0 (LT.skip rfl rfl rfl) ?_
  first | refine RG.S0 (LT.run rfl rfl rfl (ru_call C6 ⟨rfl, rfl, trivial⟩)) ?_ | refine RG.S0 (LT.skip rfl rfl rfl) ?_
  first | refine RG.S0 (LT.run rfl rfl rfl (ru_call C7 ⟨rfl, rfl, trivial⟩)) ?_ | refine RG.S0 (LT.skip rfl rfl rfl) ?_
  first | refine RG.S0 (LT.run rfl rfl rfl (rt_bin rfl rfl (fun w => run_eqi w _ _ _ _ _ _))) ?_ | refine RG.S0 (LT.skip rfl rfl rfl) ?_
  first | refine jS (rt_pick_true rfl rfl) ?_ | refine jS (rt_pick_false rfl rfl) ?_
  refine jm rfl ?_
  first | refine RG.S0 (LT.run rfl rfl rfl (ru_call A trivial)) ?_ | refine RG.S0 (LT.skip rfl rfl rfl) ?_
  first | refine jS (rt_pick_true rfl rfl) ?_ | refine jS (rt_pick_false rfl rfl) ?_
  refine ja rfl ?_
  refine RG.nil (by kernel_rfl) ?_
  repeat (first | refine js ?_ | refine jb ?_)
  refine WpD.ret ?_
  exact ret1 rfl (.tmp rfl) (PLe.refl _)
theorem law_LocalmassPairs (k s : Int) (w : World) (wk : (Lit.int .u8 k).wf = true) (ws : (Lit.int .u8 s).wf = true) (ht : TabD.e w) :
    Calls Tryd.prog 3 #[.int .u8 k, .int .u8 s] w fun e w' => e = .returned (.bool true) ∧ Below w.heap.size w w' := by
  obtain ⟨k1, k2⟩ := bounds_u8 wk
  obtain ⟨s1, s2⟩ := bounds_u8 ws
  exact fn_true (lpairs k s (by omega) (by omega) (by omega) (by omega)) w ht ⟨rfl, rfl, trivial⟩
end Go.Proofs.YtpiflllcjgpkhaaDoor

/- Chapter 31: Parity, Classes. -/
import Derived.Test.YtgbiccenhionaaaDoorLo
import Derived.Test.YtgbiccenhionaaaDoorKh
set_option maxRecDepth 3000
namespace Go.Proofs.YtgbiccenhionaaaDoor
open Go.RowKit Limb Num
section
variable {P : Program} {En : Ev} {n : Nat} {ops : Array Oper} {o : Oper} {sl : Sl} {bx : Bx}
theorem LT.skipU {g t : Nat} {b : Bool} (hg : o.guard = some (g, b)) (hd : (ops[g]?).bind (·.dst) = some t) (ht : look sl t = some (.one (ex undef))) : LT P En n ops o sl bx ⟨.one (ex undef), [], []⟩ := by
  intro sl' bx' h1 _ _ w0 h0 c hh β a w Q hi hs K hK
  obtain ⟨v, hv, hok, _⟩ := hs.slot t _ (by rw [h1 t (guard_looks hg hd)]; exact ht)
  have hv' : v = undef := hok
  subst hv'
  have : Region.wanted o (yielded ops a.tmps) = false := by simp [Region.wanted, hg, yielded, hd, hv, undef]
  rw [this]
  simp only [Bool.false_eq_true, if_false]
  exact hK _ _ ⟨undef, hh, β, rfl, hi, Le.refl _, fun _ _ => rfl, rfl, trivial⟩
end
theorem sg3_nz (z : Int) : (sg3 z != 0) = decide (z ≠ 0) := by
  unfold sg3
  by_cases h : z = 0
  · subst h; rfl
  · by_cases h2 : z < 0
    · simp [h, h2]
    · have : z > 0 := by omega
      simp [h, h2]
theorem num_ne (r : Rat) : decide (r.num ≠ 0) = decide (r ≠ 0) := by
  rw [decide_eq_decide]
  exact not_congr Rat.num_eq_zero
set_option maxHeartbeats 1000000 in
theorem lparity (k n : Int) (k1 : 0 ≤ k) (k2 : k ≤ 255) : Fn Tryd.prog TabE 7 [ex (.int .u8 k), ex (.int .i16 n)] (ex (.bool true)) := by
  obtain ⟨m, m1, m2, m0, C0⟩ := ldisc n
  obtain ⟨hf, hD, hsum, _⟩ := sums_ok m1 m2 m0
  obtain ⟨t, ht⟩ : ∃ t : Nat, k % 6 = (t : Int) := ⟨(k % 6).toNat, by omega⟩
  have hs := hsum (t + 1) (by omega) (by omega)
  have C1 := bgen (t + 1) (disc m) (by omega) (by omega) hf
  have S1 := gsum_sz (k := t + 1) (d := disc m) (f := (disc m).natAbs) (by omega) (by omega) (Nat.le_refl (t + 1 + 1))
  generalize disc m = d at *
  generalize gsum (t + 1) d d.natAbs (t + 1 + 1) = g at *
  have C2 := krsign TabE g (S1.mono (by omega))
  have hg : (sg3 g.num != 0) = fitsB (t + 1) d := by rw [sg3_nz, num_ne]; exact hs
  have w1 : IntKind.i64.wrap k = k := w64 (by omega) (by omega)
  have w2 : k.tmod 6 = (t : Int) := by rw [Int.tmod_eq_emod_of_nonneg k1]; exact ht
  have w3 : IntKind.i64.wrap (1 + (t : Int)) = ((t + 1 : Nat) : Int) := by rw [w64 (by omega) (by omega)]; omega
  have w4 : ((t + 1 : Nat) : Int).tmod 2 = (((t + 1) % 2 : Nat) : Int) := (Int.ofNat_tmod _ 2).symm
  have w5 : ((((t + 1) % 2 : Nat) : Int) == 0) = Nat.beq ((t + 1) % 2) 0 := by
    rcases (by omega : (t + 1) % 2 = 0 ∨ (t + 1) % 2 = 1) with h | h <;> rw [h] <;> rfl
  have w6 : (((t + 1 : Nat) : Int) == 1) = Nat.beq (t + 1) 1 := by
    by_cases h : t = 0
    · subst h; rfl
    · rw [show Nat.beq (t + 1) 1 = false from beq_ne (by omega), beq_eq_false_iff_ne]; omega
  have w7 : (d == 1) = decide (d = 1) := rfl
  unfold fitsB at hg
  have hb : ∀ x : Bool, (x == x) = true := by simp
  cases hp : (Nat.beq ((t + 1) % 2) 0 == decide (d > 0)) with
  | true =>
    rw [hp] at hg
    refine fn_of_body Tryd.func7 rfl Tryd.ntmps7 rfl ?_
    intro w0 h0
    repeat (first | refine js ?_ | refine jb ?_)
    refine jr ?_
    refine ja rfl ?_
    refine RG.nil (by kernel_rfl) ?_
    repeat (first | refine js ?_ | refine jb ?_)
    refine jr ?_
    refine jm rfl ?_
    refine jS (ru_call C0 ⟨rfl, trivial⟩) ?_
    refine ja rfl ?_
    refine RG.nil (by kernel_rfl) ?_
    repeat (first | refine js ?_ | refine jb ?_)
    refine jr ?_
    refine jm rfl ?_
    refine jS (rt_conv_to rfl (fun w => run_convi w CInt.ok CInt.ok _ _) (vint w1)) ?_
    refine jS (rt_bin_to rfl rfl (fun w => run_remi w _ _ _ _ _ _ (by first | decide | omega | assumption)) (vint w2)) ?_
    refine jS (rt_bin_to rfl rfl (fun w => run_addi w _ _ _ _ _ _) (vint w3)) ?_
    refine ja rfl ?_
    refine RG.nil (by kernel_rfl) ?_
    repeat (first | refine js ?_ | refine jb ?_)
    refine jr ?_
    refine jm rfl ?_
    refine jm rfl ?_
    refine jS (ru_call C1 ⟨rfl, rfl, trivial⟩) ?_
    refine jm rfl ?_
    refine jS (rt_extract rfl rfl) ?_
    refine jS (rt_extract rfl rfl) ?_
    refine jT (ru_alloc rfl rfl rfl) ?_
    refine jO (ru_storeR rfl rfl rfl rfl rfl rfl) ?_
    refine ja rfl ?_
    refine RG.nil (by kernel_rfl) ?_
    repeat (first | refine js ?_ | refine jb ?_)
    repeat (first | refine js ?_ | refine jb ?_)
    refine jr ?_
    refine jm rfl ?_
    refine jS (rt_bin_to rfl rfl (fun w => run_remi w _ _ _ _ _ _ (by first | decide | omega | assumption)) (vint w4)) ?_
    refine jS (rt_bin_to rfl rfl (fun w => run_eqi w _ _ _ _ _ _) (vbool w5)) ?_
    refine jm rfl ?_
    refine jS (rt_bin rfl rfl (fun w => run_gti w _ _ _ _ _ _)) ?_
    refine jS (rt_bin_to rfl rfl (fun w => run_eqb w CBool.ok _ _ _ _) (vbool hp)) ?_
    refine jm rfl ?_
    first | refine RG.S0 (LT.run rfl rfl rfl (rt_move rfl)) ?_ | refine RG.S0 (LT.skip rfl rfl rfl) ?_ | refine RG.S0 (LT.skipU rfl rfl rfl) ?_
    first | refine RG.S0 (LT.run rfl rfl rfl (rt_bin rfl rfl (fun w => run_eqi w _ _ _ _ _ _))) ?_ | refine RG.S0 (LT.skip rfl rfl rfl) ?_ | refine RG.S0 (LT.skipU rfl rfl rfl) ?_
    first | refine RG.S0 (LT.run rfl rfl rfl (rt_move rfl)) ?_ | refine RG.S0 (LT.skip rfl rfl rfl) ?_ | refine RG.S0 (LT.skipU rfl rfl rfl) ?_
    first | refine RG.S0 (LT.run rfl rfl rfl (rt_move rfl)) ?_ | refine RG.S0 (LT.skip rfl rfl rfl) ?_ | refine RG.S0 (LT.skipU rfl rfl rfl) ?_
    first | refine RG.S0 (LT.run rfl rfl rfl (rt_bin rfl rfl (fun w => run_eqi w _ _ _ _ _ _))) ?_ | refine RG.S0 (LT.skip rfl rfl rfl) ?_ | refine RG.S0 (LT.skipU rfl rfl rfl) ?_
    first | refine RG.S0 (LT.run rfl rfl rfl (rt_pick_true rfl rfl)) ?_ | refine RG.S0 (LT.run rfl rfl rfl (rt_pick_false rfl rfl)) ?_ | refine RG.S0 (LT.skip rfl rfl rfl) ?_ | refine RG.S0 (LT.skipU rfl rfl rfl) ?_
    first | refine jS (rt_pick_true rfl rfl) ?_ | refine jS (rt_pick_false rfl rfl) ?_
    refine ja rfl ?_
    refine RG.nil (by kernel_rfl) ?_
    repeat (first | refine js ?_ | refine jb ?_)
    refine jr ?_
    refine jm rfl ?_
    refine jS (rt_bin rfl rfl (fun w => run_eqi w _ _ _ _ _ _)) ?_
    refine jm rfl ?_
    first | refine RG.S0 (LT.run rfl rfl rfl (ru_loadR rfl rfl rfl rfl)) ?_ | refine RG.S0 (LT.skip rfl rfl rfl) ?_ | refine RG.S0 (LT.skipU rfl rfl rfl) ?_
    first | refine RG.S0 (LT.run rfl rfl rfl (ru_call C2 ⟨rfl, trivial⟩)) ?_ | refine RG.S0 (LT.skip rfl rfl rfl) ?_ | refine RG.S0 (LT.skipU rfl rfl rfl) ?_
    first | refine RG.S0 (LT.run rfl rfl rfl (rt_bin_to rfl rfl (fun w => run_nei w _ _ _ _ _ _) (vbool hg))) ?_ | refine RG.S0 (LT.skip rfl rfl rfl) ?_ | refine RG.S0 (LT.skipU rfl rfl rfl) ?_
    first | refine RG.S0 (LT.run rfl rfl rfl (rt_move rfl)) ?_ | refine RG.S0 (LT.skip rfl rfl rfl) ?_ | refine RG.S0 (LT.skipU rfl rfl rfl) ?_
    first | refine RG.S0 (LT.run rfl rfl rfl (rt_bin_to rfl rfl (fun w => run_eqb w CBool.ok _ _ _ _) (vbool (hb _)))) ?_ | refine RG.S0 (LT.skip rfl rfl rfl) ?_ | refine RG.S0 (LT.skipU rfl rfl rfl) ?_
    first | refine jS (rt_pick_true rfl rfl) ?_ | refine jS (rt_pick_false rfl rfl) ?_
    refine jm rfl ?_
    first | refine RG.S0 (LT.run rfl rfl rfl (ru_call lawake trivial)) ?_ | refine RG.S0 (LT.skip rfl rfl rfl) ?_ | refine RG.S0 (LT.skipU rfl rfl rfl) ?_
    first | refine jS (rt_pick_true rfl rfl) ?_ | refine jS (rt_pick_false rfl rfl) ?_
    refine ja rfl ?_
    refine RG.nil (by kernel_rfl) ?_
    repeat (first | refine js ?_ | refine jb ?_)
    refine WpD.ret ?_
    exact ret1 rfl (.tmp rfl) (PLe.refl _)
  | false =>
    rw [hp] at hg
    cases hq : decide (d = 1) with
    | false =>
      rw [hq] at hg
      refine fn_of_body Tryd.func7 rfl Tryd.ntmps7 rfl ?_
      intro w0 h0
      repeat (first | refine js ?_ | refine jb ?_)
      refine jr ?_
      refine ja rfl ?_
      refine RG.nil (by kernel_rfl) ?_
      repeat (first | refine js ?_ | refine jb ?_)
      refine jr ?_
      refine jm rfl ?_
      refine jS (ru_call C0 ⟨rfl, trivial⟩) ?_
      refine ja rfl ?_
      refine RG.nil (by kernel_rfl) ?_
      repeat (first | refine js ?_ | refine jb ?_)
      refine jr ?_
      refine jm rfl ?_
      refine jS (rt_conv_to rfl (fun w => run_convi w CInt.ok CInt.ok _ _) (vint w1)) ?_
      refine jS (rt_bin_to rfl rfl (fun w => run_remi w _ _ _ _ _ _ (by first | decide | omega | assumption)) (vint w2)) ?_
      refine jS (rt_bin_to rfl rfl (fun w => run_addi w _ _ _ _ _ _) (vint w3)) ?_
      refine ja rfl ?_
      refine RG.nil (by kernel_rfl) ?_
      repeat (first | refine js ?_ | refine jb ?_)
      refine jr ?_
      refine jm rfl ?_
      refine jm rfl ?_
      refine jS (ru_call C1 ⟨rfl, rfl, trivial⟩) ?_
      refine jm rfl ?_
      refine jS (rt_extract rfl rfl) ?_
      refine jS (rt_extract rfl rfl) ?_
      refine jT (ru_alloc rfl rfl rfl) ?_
      refine jO (ru_storeR rfl rfl rfl rfl rfl rfl) ?_
      refine ja rfl ?_
      refine RG.nil (by kernel_rfl) ?_
      repeat (first | refine js ?_ | refine jb ?_)
      repeat (first | refine js ?_ | refine jb ?_)
      refine jr ?_
      refine jm rfl ?_
      refine jS (rt_bin_to rfl rfl (fun w => run_remi w _ _ _ _ _ _ (by first | decide | omega | assumption)) (vint w4)) ?_
      refine jS (rt_bin_to rfl rfl (fun w => run_eqi w _ _ _ _ _ _) (vbool w5)) ?_
      refine jm rfl ?_
      refine jS (rt_bin rfl rfl (fun w => run_gti w _ _ _ _ _ _)) ?_
      refine jS (rt_bin_to rfl rfl (fun w => run_eqb w CBool.ok _ _ _ _) (vbool hp)) ?_
      refine jm rfl ?_
      first | refine RG.S0 (LT.run rfl rfl rfl (rt_move rfl)) ?_ | refine RG.S0 (LT.skip rfl rfl rfl) ?_ | refine RG.S0 (LT.skipU rfl rfl rfl) ?_
      first | refine RG.S0 (LT.run rfl rfl rfl (rt_bin_to rfl rfl (fun w => run_eqi w _ _ _ _ _ _) (vbool hq))) ?_ | refine RG.S0 (LT.skip rfl rfl rfl) ?_ | refine RG.S0 (LT.skipU rfl rfl rfl) ?_
      first | refine RG.S0 (LT.run rfl rfl rfl (rt_move rfl)) ?_ | refine RG.S0 (LT.skip rfl rfl rfl) ?_ | refine RG.S0 (LT.skipU rfl rfl rfl) ?_
      first | refine RG.S0 (LT.run rfl rfl rfl (rt_move rfl)) ?_ | refine RG.S0 (LT.skip rfl rfl rfl) ?_ | refine RG.S0 (LT.skipU rfl rfl rfl) ?_
      first | refine RG.S0 (LT.run rfl rfl rfl (rt_bin rfl rfl (fun w => run_eqi w _ _ _ _ _ _))) ?_ | refine RG.S0 (LT.skip rfl rfl rfl) ?_ | refine RG.S0 (LT.skipU rfl rfl rfl) ?_
      first | refine RG.S0 (LT.run rfl rfl rfl (rt_pick_true rfl rfl)) ?_ | refine RG.S0 (LT.run rfl rfl rfl (rt_pick_false rfl rfl)) ?_ | refine RG.S0 (LT.skip rfl rfl rfl) ?_ | refine RG.S0 (LT.skipU rfl rfl rfl) ?_
      first | refine jS (rt_pick_true rfl rfl) ?_ | refine jS (rt_pick_false rfl rfl) ?_
      refine ja rfl ?_
      refine RG.nil (by kernel_rfl) ?_
      repeat (first | refine js ?_ | refine jb ?_)
      refine jr ?_
      refine jm rfl ?_
      refine jS (rt_bin rfl rfl (fun w => run_eqi w _ _ _ _ _ _)) ?_
      refine jm rfl ?_
      first | refine RG.S0 (LT.run rfl rfl rfl (ru_loadR rfl rfl rfl rfl)) ?_ | refine RG.S0 (LT.skip rfl rfl rfl) ?_ | refine RG.S0 (LT.skipU rfl rfl rfl) ?_
      first | refine RG.S0 (LT.run rfl rfl rfl (ru_call C2 ⟨rfl, trivial⟩)) ?_ | refine RG.S0 (LT.skip rfl rfl rfl) ?_ | refine RG.S0 (LT.skipU rfl rfl rfl) ?_
      first | refine RG.S0 (LT.run rfl rfl rfl (rt_bin_to rfl rfl (fun w => run_nei w _ _ _ _ _ _) (vbool hg))) ?_ | refine RG.S0 (LT.skip rfl rfl rfl) ?_ | refine RG.S0 (LT.skipU rfl rfl rfl) ?_
      first | refine RG.S0 (LT.run rfl rfl rfl (rt_move rfl)) ?_ | refine RG.S0 (LT.skip rfl rfl rfl) ?_ | refine RG.S0 (LT.skipU rfl rfl rfl) ?_
      first | refine RG.S0 (LT.run rfl rfl rfl (rt_bin_to rfl rfl (fun w => run_eqb w CBool.ok _ _ _ _) (vbool (hb _)))) ?_ | refine RG.S0 (LT.skip rfl rfl rfl) ?_ | refine RG.S0 (LT.skipU rfl rfl rfl) ?_
      first | refine jS (rt_pick_true rfl rfl) ?_ | refine jS (rt_pick_false rfl rfl) ?_
      refine jm rfl ?_
      first | refine RG.S0 (LT.run rfl rfl rfl (ru_call lawake trivial)) ?_ | refine RG.S0 (LT.skip rfl rfl rfl) ?_ | refine RG.S0 (LT.skipU rfl rfl rfl) ?_
      first | refine jS (rt_pick_true rfl rfl) ?_ | refine jS (rt_pick_false rfl rfl) ?_
      refine ja rfl ?_
      refine RG.nil (by kernel_rfl) ?_
      repeat (first | refine js ?_ | refine jb ?_)
      refine WpD.ret ?_
      exact ret1 rfl (.tmp rfl) (PLe.refl _)
    | true =>
      rw [hq] at hg
      refine fn_of_body Tryd.func7 rfl Tryd.ntmps7 rfl ?_
      intro w0 h0
      repeat (first | refine js ?_ | refine jb ?_)
      refine jr ?_
      refine ja rfl ?_
      refine RG.nil (by kernel_rfl) ?_
      repeat (first | refine js ?_ | refine jb ?_)
      refine jr ?_
      refine jm rfl ?_
      refine jS (ru_call C0 ⟨rfl, trivial⟩) ?_
      refine ja rfl ?_
      refine RG.nil (by kernel_rfl) ?_
      repeat (first | refine js ?_ | refine jb ?_)
      refine jr ?_
      refine jm rfl ?_
      refine jS (rt_conv_to rfl (fun w => run_convi w CInt.ok CInt.ok _ _) (vint w1)) ?_
      refine jS (rt_bin_to rfl rfl (fun w => run_remi w _ _ _ _ _ _ (by first | decide | omega | assumption)) (vint w2)) ?_
      refine jS (rt_bin_to rfl rfl (fun w => run_addi w _ _ _ _ _ _) (vint w3)) ?_
      refine ja rfl ?_
      refine RG.nil (by kernel_rfl) ?_
      repeat (first | refine js ?_ | refine jb ?_)
      refine jr ?_
      refine jm rfl ?_
      refine jm rfl ?_
      refine jS (ru_call C1 ⟨rfl, rfl, trivial⟩) ?_
      refine jm rfl ?_
      refine jS (rt_extract rfl rfl) ?_
      refine jS (rt_extract rfl rfl) ?_
      refine jT (ru_alloc rfl rfl rfl) ?_
      refine jO (ru_storeR rfl rfl rfl rfl rfl rfl) ?_
      refine ja rfl ?_
      refine RG.nil (by kernel_rfl) ?_
      repeat (first | refine js ?_ | refine jb ?_)
      repeat (first | refine js ?_ | refine jb ?_)
      refine jr ?_
      refine jm rfl ?_
      refine jS (rt_bin_to rfl rfl (fun w => run_remi w _ _ _ _ _ _ (by first | decide | omega | assumption)) (vint w4)) ?_
      refine jS (rt_bin_to rfl rfl (fun w => run_eqi w _ _ _ _ _ _) (vbool w5)) ?_
      refine jm rfl ?_
      refine jS (rt_bin rfl rfl (fun w => run_gti w _ _ _ _ _ _)) ?_
      refine jS (rt_bin_to rfl rfl (fun w => run_eqb w CBool.ok _ _ _ _) (vbool hp)) ?_
      refine jm rfl ?_
      first | refine RG.S0 (LT.run rfl rfl rfl (rt_move rfl)) ?_ | refine RG.S0 (LT.skip rfl rfl rfl) ?_ | refine RG.S0 (LT.skipU rfl rfl rfl) ?_
      first | refine RG.S0 (LT.run rfl rfl rfl (rt_bin_to rfl rfl (fun w => run_eqi w _ _ _ _ _ _) (vbool hq))) ?_ | refine RG.S0 (LT.skip rfl rfl rfl) ?_ | refine RG.S0 (LT.skipU rfl rfl rfl) ?_
      first | refine RG.S0 (LT.run rfl rfl rfl (rt_move rfl)) ?_ | refine RG.S0 (LT.skip rfl rfl rfl) ?_ | refine RG.S0 (LT.skipU rfl rfl rfl) ?_
      first | refine RG.S0 (LT.run rfl rfl rfl (rt_move rfl)) ?_ | refine RG.S0 (LT.skip rfl rfl rfl) ?_ | refine RG.S0 (LT.skipU rfl rfl rfl) ?_
      first | refine RG.S0 (LT.run rfl rfl rfl (rt_bin_to rfl rfl (fun w => run_eqi w _ _ _ _ _ _) (vbool w6))) ?_ | refine RG.S0 (LT.skip rfl rfl rfl) ?_ | refine RG.S0 (LT.skipU rfl rfl rfl) ?_
      first | refine RG.S0 (LT.run rfl rfl rfl (rt_pick_true rfl rfl)) ?_ | refine RG.S0 (LT.run rfl rfl rfl (rt_pick_false rfl rfl)) ?_ | refine RG.S0 (LT.skip rfl rfl rfl) ?_ | refine RG.S0 (LT.skipU rfl rfl rfl) ?_
      first | refine jS (rt_pick_true rfl rfl) ?_ | refine jS (rt_pick_false rfl rfl) ?_
      refine ja rfl ?_
      refine RG.nil (by kernel_rfl) ?_
      repeat (first | refine js ?_ | refine jb ?_)
      refine jr ?_
      refine jm rfl ?_
      refine jS (rt_bin rfl rfl (fun w => run_eqi w _ _ _ _ _ _)) ?_
      refine jm rfl ?_
      first | refine RG.S0 (LT.run rfl rfl rfl (ru_loadR rfl rfl rfl rfl)) ?_ | refine RG.S0 (LT.skip rfl rfl rfl) ?_ | refine RG.S0 (LT.skipU rfl rfl rfl) ?_
      first | refine RG.S0 (LT.run rfl rfl rfl (ru_call C2 ⟨rfl, trivial⟩)) ?_ | refine RG.S0 (LT.skip rfl rfl rfl) ?_ | refine RG.S0 (LT.skipU rfl rfl rfl) ?_
      first | refine RG.S0 (LT.run rfl rfl rfl (rt_bin_to rfl rfl (fun w => run_nei w _ _ _ _ _ _) (vbool hg))) ?_ | refine RG.S0 (LT.skip rfl rfl rfl) ?_ | refine RG.S0 (LT.skipU rfl rfl rfl) ?_
      first | refine RG.S0 (LT.run rfl rfl rfl (rt_move rfl)) ?_ | refine RG.S0 (LT.skip rfl rfl rfl) ?_ | refine RG.S0 (LT.skipU rfl rfl rfl) ?_
      first | refine RG.S0 (LT.run rfl rfl rfl (rt_bin_to rfl rfl (fun w => run_eqb w CBool.ok _ _ _ _) (vbool (hb _)))) ?_ | refine RG.S0 (LT.skip rfl rfl rfl) ?_ | refine RG.S0 (LT.skipU rfl rfl rfl) ?_
      first | refine jS (rt_pick_true rfl rfl) ?_ | refine jS (rt_pick_false rfl rfl) ?_
      refine jm rfl ?_
      first | refine RG.S0 (LT.run rfl rfl rfl (ru_call lawake trivial)) ?_ | refine RG.S0 (LT.skip rfl rfl rfl) ?_ | refine RG.S0 (LT.skipU rfl rfl rfl) ?_
      first | refine jS (rt_pick_true rfl rfl) ?_ | refine jS (rt_pick_false rfl rfl) ?_
      refine ja rfl ?_
      refine RG.nil (by kernel_rfl) ?_
      repeat (first | refine js ?_ | refine jb ?_)
      refine WpD.ret ?_
      exact ret1 rfl (.tmp rfl) (PLe.refl _)
theorem law_BernoulliParity (k n : Int) (w : World) (wk : (Lit.int .u8 k).wf = true) (wn : (Lit.int .i16 n).wf = true) (ht : Tab w) :
    Calls Tryd.prog 7 #[.int .u8 k, .int .i16 n] w fun e w' => e = .returned (.bool true) ∧ Below w.heap.size w w' := by
  have _ := wn
  obtain ⟨k1, k2⟩ := bounds_u8 wk
  exact fn_true (lparity k n (by omega) (by omega)) w ht ⟨rfl, rfl, trivial⟩
theorem rsub_zero {a b : Rat} (h : a = b) : sg3 (a - b).num = 0 := by subst h; rw [Rat.sub_self]; rfl
theorem bAbs_sq (p t : Nat) : ((t : Int) - (p : Int)) * ((t : Int) - (p : Int)) = ((bAbs (p + 1) t * bAbs (p + 1) t : Nat) : Int) := by
  unfold bAbs
  cases h : Nat.ble (p + 1) (t + 1) with
  | true =>
    have h := Nat.le_of_ble_eq_true h
    rw [cond_true, show t + 1 - (p + 1) = t - p by omega, Int.natCast_mul, show ((t - p : Nat) : Int) = (t : Int) - (p : Int) by omega]
  | false =>
    have h' : ¬ p + 1 ≤ t + 1 := fun hh => by rw [← Nat.ble_eq] at hh; rw [hh] at h; cases h
    rw [cond_false, show p + 1 - (t + 1) = p - t by omega, Int.natCast_mul, show ((p - t : Nat) : Int) = -((t : Int) - (p : Int)) by omega, Int.neg_mul_neg]
theorem bAbs_le {p t : Nat} (hp : p < 20) (ht : t < 2 * (p + 1)) : bAbs (p + 1) t ≤ 40 := by
  unfold bAbs
  cases Nat.ble (p + 1) (t + 1)
  · show p + 1 - (t + 1) ≤ 40; omega
  · show t + 1 - (p + 1) ≤ 40; omega
theorem cntB_le (D a : Nat) : ∀ t, cntB D a t ≤ t
  | 0 => Nat.le_refl _
  | t + 1 => by
    have := cntB_le D a t
    rw [cntB]
    cases fQ D a t
    · show cntB D a t + 0 ≤ _; omega
    · show cntB D a t + 1 ≤ _; omega
theorem cntA_le (D : Nat) : ∀ p, cntA D p ≤ p * (2 * p)
  | 0 => Nat.le_refl _
  | p + 1 => by
    have h1 := cntA_le D p
    have h2 := cntB_le D (p + 1) (2 * (p + 1))
    rw [cntA]
    have : p * (2 * p) + 2 * (p + 1) ≤ (p + 1) * (2 * (p + 1)) := by
      rw [Nat.add_mul, Nat.one_mul]
      have : p * (2 * p) ≤ p * (2 * (p + 1)) := Nat.mul_le_mul (Nat.le_refl _) (by omega)
      omega
    omega
theorem blt_iff {a c : Nat} : Nat.blt a c = decide (a < c) := by
  by_cases h : a < c
  · rw [decide_eq_true h]; exact Nat.ble_eq_true_of_le h
  · rw [decide_eq_false h]; exact Bool.eq_false_iff.2 (fun hh => h (Nat.le_of_ble_eq_true hh))
theorem fQ_eq {D a t V r c : Nat} (hV : fV D a t = V) (hr : V % (4 * a) = r) (hc : V / (4 * a) = c) : fQ D a t = (decide (r = 0) && (decide (a < c) || (decide (c = a) && decide (a ≤ t + 1)))) := by
  unfold fQ
  rw [hV, hr, hc, blt_iff]
  have h1 : Nat.beq r 0 = decide (r = 0) := by by_cases h : r = 0; · { rw [decide_eq_true h, h]; rfl }; · { rw [decide_eq_false h]; exact beq_ne h }
  have h2 : Nat.beq c a = decide (c = a) := by by_cases h : c = a; · { rw [decide_eq_true h, h]; exact Nat.beq_refl a }; · { rw [decide_eq_false h]; exact beq_ne h }
  have h3 : Nat.ble a (t + 1) = decide (a ≤ t + 1) := by
    by_cases h : a ≤ t + 1
    · rw [decide_eq_true h]; exact Nat.ble_eq_true_of_le h
    · rw [decide_eq_false h]; exact Bool.eq_false_iff.2 (fun hh => h (Nat.le_of_ble_eq_true hh))
  rw [h1, h2, h3]
set_option maxHeartbeats 1000000 in
theorem lclasses (n : Int) : Fn Tryd.prog TabE 6 [ex (.int .i16 n)] (ex (.bool true)) := by
  obtain ⟨m, m1, m2, m0, C0⟩ := ldisc n
  obtain ⟨hf, hD, _, hcls⟩ := sums_ok m1 m2 m0
  generalize disc m = d at *
  by_cases hbig : d ≥ -4
  · refine fn_of_body Tryd.func6 rfl Tryd.ntmps6 rfl ?_
    intro w0 h0
    repeat (first | refine js ?_ | refine jb ?_)
    refine jr ?_
    refine ja rfl ?_
    refine RG.nil (by kernel_rfl) ?_
    repeat (first | refine js ?_ | refine jb ?_)
    refine jr ?_
    refine jm rfl ?_
    refine jS (ru_call C0 ⟨rfl, trivial⟩) ?_
    refine ja rfl ?_
    refine RG.nil (by kernel_rfl) ?_
    repeat (first | refine js ?_ | refine jb ?_)
    refine jr ?_
    refine jm rfl ?_
    refine jS (rt_bin_to rfl rfl (fun w => run_gei w _ _ _ _ _ _) (vbool (decide_eq_true (by first | assumption | omega)))) ?_
    refine RG.nil (by kernel_rfl) ?_
    repeat (first | refine js ?_ | refine jb ?_)
    refine WpD.condT rfl ?_
    repeat (first | refine js ?_ | refine jb ?_)
    refine jr ?_
    refine jS (ru_call lawake trivial) ?_
    refine ja rfl ?_
    refine RG.nil (by kernel_rfl) ?_
    repeat (first | refine js ?_ | refine jb ?_)
    refine WpD.ret ?_
    exact ret1 rfl (.tmp rfl) (PLe.refl _)
  have hgs := hcls (by omega)
  have C1 := bgen 1 d (by omega) (by omega) hf
  rw [hgs] at C1
  clear hgs hcls
  generalize hDd : d.natAbs = D at *
  obtain rfl : d = -(D : Int) := by omega
  clear hDd
  have hP : a3 D 20 < 20 := by
    rcases Nat.lt_or_ge (a3 D 20) 20 with h | h
    · exact h
    · have := (a3_iff D (k := 20) (p := 19) (by omega)).1 (by omega); omega
  have hcl := cntA_le D (a3 D 20)
  have hcl2 : a3 D 20 * (2 * a3 D 20) ≤ 20 * 40 := Nat.mul_le_mul (by omega) (by omega)
  have C2 := qsmall TabE (-(cnt D : Int)) (by unfold cnt; omega) (by omega)
  have Sq := sz_z (z := -(cnt D : Int)) (by unfold cnt; omega) (by omega)
  have C3 := kqcmp TabE ((-(cnt D : Int) : Int) : Rat) ((-(cnt D : Int) : Int) : Rat) (Sq.mono (by omega)) (Sq.mono (by omega))
  rw [rsub_zero rfl] at C3
  have eD : IntKind.i64.wrap (-(-(D : Int))) = (D : Int) := by rw [Int.neg_neg]; exact w64 (by omega) (by omega)
  refine fn_of_body Tryd.func6 rfl Tryd.ntmps6 rfl ?_
  intro w0 h0
  repeat (first | refine js ?_ | refine jb ?_)
  refine jr ?_
  refine ja rfl ?_
  refine RG.nil (by kernel_rfl) ?_
  repeat (first | refine js ?_ | refine jb ?_)
  refine jr ?_
  refine jm rfl ?_
  refine jS (ru_call C0 ⟨rfl, trivial⟩) ?_
  refine ja rfl ?_
  refine RG.nil (by kernel_rfl) ?_
  repeat (first | refine js ?_ | refine jb ?_)
  refine jr ?_
  refine jm rfl ?_
  refine jS (rt_bin_to rfl rfl (fun w => run_gei w _ _ _ _ _ _) (vbool (decide_eq_false (by first | assumption | omega)))) ?_
  refine RG.nil (by kernel_rfl) ?_
  repeat (first | refine js ?_ | refine jb ?_)
  refine WpD.condF rfl ?_
  repeat (first | refine js ?_ | refine jb ?_)
  refine WpD.skip ?_
  repeat (first | refine js ?_ | refine jb ?_)
  refine jr ?_
  refine ja rfl ?_
  refine RG.nil (by kernel_rfl) ?_
  repeat (first | refine js ?_ | refine jb ?_)
  refine jr ?_
  refine ja rfl ?_
  refine RG.nil (by kernel_rfl) ?_
  repeat (first | refine js ?_ | refine jb ?_)
  refine WpD.loop (α := {p : Nat // p ≤ a3 D 20}) (fun p => ⟨[(3, .one (ex (.int .i64 (-(D : Int))))), (4, .one (ex (.int .i64 ((cntA D p.1 : Nat) : Int)))), (5, .one (ex (.int .i64 ((p.1 + 1 : Nat) : Int))))], []⟩) (fun p => a3 D 20 - p.1) ⟨0, Nat.zero_le _⟩ ?_ ?_
  · refine Sub.mk ?_ ?_
    · repeat (first | exact trivial | refine jv rfl ?_ | refine jw rfl (js0 rfl) ?_ | refine jw rfl ⟨js0 rfl, js0 rfl⟩ ?_ | refine jx rfl ⟨js0 rfl, js0 rfl⟩ ?_ | refine jw rfl (clo_live (js0 rfl) (js0 rfl)) ?_ | refine ⟨⟨_, rfl, PLe.refl _⟩, trivial, ?_⟩)
    · repeat (first | exact trivial | refine jz ?_ | refine jy rfl ?_)
  rintro ⟨p, hp⟩
  dsimp only at hp ⊢
  have hp20 : p < 20 := by omega
  have hsq : 3 * (p + 1) * (p + 1) ≤ 3 * 20 * 20 := Nat.mul_le_mul (Nat.mul_le_mul (Nat.le_refl _) (by omega)) (by omega)
  have e1 : IntKind.i64.wrap (3 * ((p + 1 : Nat) : Int)) = ((3 * (p + 1) : Nat) : Int) := by rw [w64 (by omega) (by omega)]; omega
  have e2 : IntKind.i64.wrap (((3 * (p + 1) : Nat) : Int) * ((p + 1 : Nat) : Int)) = ((3 * (p + 1) * (p + 1) : Nat) : Int) := by rw [← Int.natCast_mul]; exact w64 (by omega) (by omega)
  have hiff := a3_iff D (k := 20) hp20
  have hA := cntA_le D p
  have hA2 : p * (2 * p) ≤ 20 * 40 := Nat.mul_le_mul (by omega) (by omega)
  by_cases hlt : p < a3 D 20
  · have hle := hiff.1 hlt
    have e8 : IntKind.i64.wrap (1 - ((p + 1 : Nat) : Int)) = ((0 : Nat) : Int) - (p : Int) := by rw [w64 (by omega) (by omega)]; omega
    have ea : IntKind.i64.wrap (((p + 1 : Nat) : Int) + 1) = ((p + 1 + 1 : Nat) : Int) := by rw [w64 (by omega) (by omega)]; omega
    repeat (first | refine js ?_ | refine jb ?_)
    refine jr ?_
    refine jm rfl ?_
    refine jS (rt_bin_to rfl rfl (fun w => run_muli w _ _ _ _ _ _) (vint e1)) ?_
    refine jm rfl ?_
    refine jS (rt_bin_to rfl rfl (fun w => run_muli w _ _ _ _ _ _) (vint e2)) ?_
    refine jm rfl ?_
    refine jS (rt_un_to rfl (fun w => run_negi w _ _) (vint eD)) ?_
    refine jS (rt_bin_to rfl rfl (fun w => run_lei w _ _ _ _ _ _) (vbool (decide_eq_true (Int.ofNat_le.2 hle)))) ?_
    refine RG.nil (by kernel_rfl) ?_
    repeat (first | refine js ?_ | refine jb ?_)
    refine WpD.condT rfl ?_
    repeat (first | refine js ?_ | refine jb ?_)
    refine WpD.skip ?_
    repeat (first | refine js ?_ | refine jb ?_)
    refine jr ?_
    refine jm rfl ?_
    refine jS (rt_bin_to rfl rfl (fun w => run_subi w _ _ _ _ _ _) (vint e8)) ?_
    refine ja rfl ?_
    refine RG.nil (by kernel_rfl) ?_
    repeat (first | refine js ?_ | refine jb ?_)
    refine WpD.loop (α := {t : Nat // t ≤ 2 * (p + 1)}) (fun t => ⟨[(3, .one (ex (.int .i64 (-(D : Int))))), (4, .one (ex (.int .i64 ((cntA D p + cntB D (p + 1) t.1 : Nat) : Int)))), (5, .one (ex (.int .i64 ((p + 1 : Nat) : Int)))), (6, .one (ex (.int .i64 ((t.1 : Int) - (p : Int)))))], []⟩) (fun t => 2 * (p + 1) - t.1) ⟨0, Nat.zero_le _⟩ ?_ ?_
    · refine Sub.mk ?_ ?_
      · repeat (first | exact trivial | refine jv rfl ?_ | refine jw rfl (js0 rfl) ?_ | refine jw rfl ⟨js0 rfl, js0 rfl⟩ ?_ | refine jx rfl ⟨js0 rfl, js0 rfl⟩ ?_ | refine jw rfl (clo_live (js0 rfl) (js0 rfl)) ?_ | refine ⟨⟨_, rfl, PLe.refl _⟩, trivial, ?_⟩)
      · repeat (first | exact trivial | refine jz ?_ | refine jy rfl ?_)
    rintro ⟨t, ht⟩
    dsimp only at ht ⊢
    by_cases hlt2 : t < 2 * (p + 1)
    · have hB := bAbs_le hp20 hlt2
      have hBB : bAbs (p + 1) t * bAbs (p + 1) t ≤ 40 * 40 := Nat.mul_le_mul hB hB
      obtain ⟨V, hV⟩ : ∃ V, fV D (p + 1) t = V := ⟨_, rfl⟩
      have hV' : bAbs (p + 1) t * bAbs (p + 1) t + D = V := hV
      obtain ⟨r, hr⟩ : ∃ r, V % (4 * (p + 1)) = r := ⟨_, rfl⟩
      obtain ⟨c, hc⟩ : ∃ c, V / (4 * (p + 1)) = c := ⟨_, rfl⟩
      have hcV : c ≤ V := by rw [← hc]; exact Nat.div_le_self _ _
      have hQ := fQ_eq hV hr hc
      have hcb := cntB_le D (p + 1) t
      have f1 : IntKind.i64.wrap (((t : Int) - (p : Int)) * ((t : Int) - (p : Int))) = ((bAbs (p + 1) t * bAbs (p + 1) t : Nat) : Int) := by rw [bAbs_sq]; exact w64 (by omega) (by omega)
      generalize bAbs (p + 1) t * bAbs (p + 1) t = BB at *
      have f2 : IntKind.i64.wrap ((BB : Int) - (-(D : Int))) = (V : Int) := by rw [w64 (by omega) (by omega)]; omega
      have f3 : IntKind.i64.wrap (4 * ((p + 1 : Nat) : Int)) = ((4 * (p + 1) : Nat) : Int) := by rw [w64 (by omega) (by omega)]; omega
      have f4 : (V : Int).tmod ((4 * (p + 1) : Nat) : Int) = (r : Int) := by rw [← hr]; exact (Int.ofNat_tmod _ _).symm
      have f5 : IntKind.i64.wrap ((V : Int).tdiv ((4 * (p + 1) : Nat) : Int)) = (c : Int) := by
        rw [show (V : Int).tdiv ((4 * (p + 1) : Nat) : Int) = ((V / (4 * (p + 1)) : Nat) : Int) from (Int.ofNat_tdiv _ _).symm, hc]; exact w64 (by omega) (by omega)
      have f6 : IntKind.i64.wrap (((t : Int) - (p : Int)) + 1) = ((t + 1 : Nat) : Int) - (p : Int) := by rw [w64 (by omega) (by omega)]; omega
      have f7 : IntKind.i64.wrap (((cntA D p + cntB D (p + 1) t : Nat) : Int) + 1) = ((cntA D p + (cntB D (p + 1) t + 1) : Nat) : Int) := by rw [w64 (by omega) (by omega)]; omega
      have hs : cntB D (p + 1) (t + 1) = cntB D (p + 1) t + cond (fQ D (p + 1) t) 1 0 := rfl
      by_cases hr0 : r = 0
      · by_cases hca : p + 1 < c
        · rw [hQ, decide_eq_true hr0, decide_eq_true hca] at hs
          have hs : cntB D (p + 1) (t + 1) = cntB D (p + 1) t + 1 := hs
          repeat (first | refine js ?_ | refine jb ?_)
          refine jr ?_
          refine jm rfl ?_
          refine jm rfl ?_
          refine jS (rt_bin_to rfl rfl (fun w => run_lei w _ _ _ _ _ _) (vbool (decide_eq_true (by first | assumption | omega)))) ?_
          refine RG.nil (by kernel_rfl) ?_
          repeat (first | refine js ?_ | refine jb ?_)
          refine WpD.condT rfl ?_
          repeat (first | refine js ?_ | refine jb ?_)
          refine WpD.skip ?_
          repeat (first | refine js ?_ | refine jb ?_)
          refine jr ?_
          refine jm rfl ?_
          refine jm rfl ?_
          refine jS (rt_bin_to rfl rfl (fun w => run_muli w _ _ _ _ _ _) (vint f1)) ?_
          refine jm rfl ?_
          refine jS (rt_bin_to rfl rfl (fun w => run_subi w _ _ _ _ _ _) (vint f2)) ?_
          refine jm rfl ?_
          refine jS (rt_bin_to rfl rfl (fun w => run_muli w _ _ _ _ _ _) (vint f3)) ?_
          refine jS (rt_bin_to rfl rfl (fun w => run_remi w _ _ _ _ _ _ (by first | decide | omega | assumption)) (vint f4)) ?_
          refine jS (rt_bin_to rfl rfl (fun w => run_nei w _ _ _ _ _ _) (vbool (bneF (by first | assumption | omega)))) ?_
          refine RG.nil (by kernel_rfl) ?_
          repeat (first | refine js ?_ | refine jb ?_)
          refine WpD.condF rfl ?_
          repeat (first | refine js ?_ | refine jb ?_)
          refine WpD.skip ?_
          repeat (first | refine js ?_ | refine jb ?_)
          refine jr ?_
          refine jm rfl ?_
          refine jm rfl ?_
          refine jS (rt_bin_to rfl rfl (fun w => run_muli w _ _ _ _ _ _) (vint f1)) ?_
          refine jm rfl ?_
          refine jS (rt_bin_to rfl rfl (fun w => run_subi w _ _ _ _ _ _) (vint f2)) ?_
          refine jm rfl ?_
          refine jS (rt_bin_to rfl rfl (fun w => run_muli w _ _ _ _ _ _) (vint f3)) ?_
          refine jS (rt_bin_to rfl rfl (fun w => run_quoi w _ _ _ _ _ _ (by first | decide | omega | assumption)) (vint f5)) ?_
          refine ja rfl ?_
          refine RG.nil (by kernel_rfl) ?_
          repeat (first | refine js ?_ | refine jb ?_)
          refine jr ?_
          refine jm rfl ?_
          refine jm rfl ?_
          refine jS (rt_bin_to rfl rfl (fun w => run_gti w _ _ _ _ _ _) (vbool (decide_eq_true (by first | assumption | omega)))) ?_
          refine jm rfl ?_
          refine RG.S0 (LT.skip rfl rfl rfl) ?_
          refine RG.S0 (LT.skip rfl rfl rfl) ?_
          refine RG.S0 (LT.skip rfl rfl rfl) ?_
          refine RG.S0 (LT.skip rfl rfl rfl) ?_
          refine RG.S0 (LT.skipU rfl rfl rfl) ?_
          refine RG.S0 (LT.skipU rfl rfl rfl) ?_
          refine RG.S0 (LT.skip rfl rfl rfl) ?_
          refine jS (rt_pick_true rfl rfl) ?_
          refine RG.nil (by kernel_rfl) ?_
          repeat (first | refine js ?_ | refine jb ?_)
          refine WpD.condT rfl ?_
          repeat (first | refine js ?_ | refine jb ?_)
          refine jr ?_
          refine jm rfl ?_
          refine jS (rt_bin_to rfl rfl (fun w => run_addi w _ _ _ _ _ _) (vint f7)) ?_
          refine ja rfl ?_
          refine RG.nil (by kernel_rfl) ?_
          repeat (first | refine js ?_ | refine jb ?_)
          refine jr ?_
          refine jm rfl ?_
          refine jS (rt_bin_to rfl rfl (fun w => run_addi w _ _ _ _ _ _) (vint f6)) ?_
          refine ja rfl ?_
          refine RG.nil (by kernel_rfl) ?_
          refine ⟨⟨t + 1, by omega⟩, ?_, by dsimp only; omega⟩
          dsimp only; rw [hs]
          refine Sub.mk ?_ ?_
          · repeat (first | exact trivial | refine jv rfl ?_ | refine jw rfl (js0 rfl) ?_ | refine jw rfl ⟨js0 rfl, js0 rfl⟩ ?_ | refine jx rfl ⟨js0 rfl, js0 rfl⟩ ?_ | refine jw rfl (clo_live (js0 rfl) (js0 rfl)) ?_ | refine ⟨⟨_, rfl, PLe.refl _⟩, trivial, ?_⟩)
          · repeat (first | exact trivial | refine jz ?_ | refine jy rfl ?_)
        · by_cases hce : c = p + 1
          · by_cases hbt : p + 1 ≤ t + 1
            · rw [hQ, decide_eq_true hr0, decide_eq_false hca, decide_eq_true hce, decide_eq_true hbt] at hs
              have hs : cntB D (p + 1) (t + 1) = cntB D (p + 1) t + 1 := hs
              repeat (first | refine js ?_ | refine jb ?_)
              refine jr ?_
              refine jm rfl ?_
              refine jm rfl ?_
              refine jS (rt_bin_to rfl rfl (fun w => run_lei w _ _ _ _ _ _) (vbool (decide_eq_true (by first | assumption | omega)))) ?_
              refine RG.nil (by kernel_rfl) ?_
              repeat (first | refine js ?_ | refine jb ?_)
              refine WpD.condT rfl ?_
              repeat (first | refine js ?_ | refine jb ?_)
              refine WpD.skip ?_
              repeat (first | refine js ?_ | refine jb ?_)
              refine jr ?_
              refine jm rfl ?_
              refine jm rfl ?_
              refine jS (rt_bin_to rfl rfl (fun w => run_muli w _ _ _ _ _ _) (vint f1)) ?_
              refine jm rfl ?_
              refine jS (rt_bin_to rfl rfl (fun w => run_subi w _ _ _ _ _ _) (vint f2)) ?_
              refine jm rfl ?_
              refine jS (rt_bin_to rfl rfl (fun w => run_muli w _ _ _ _ _ _) (vint f3)) ?_
              refine jS (rt_bin_to rfl rfl (fun w => run_remi w _ _ _ _ _ _ (by first | decide | omega | assumption)) (vint f4)) ?_
              refine jS (rt_bin_to rfl rfl (fun w => run_nei w _ _ _ _ _ _) (vbool (bneF (by first | assumption | omega)))) ?_
              refine RG.nil (by kernel_rfl) ?_
              repeat (first | refine js ?_ | refine jb ?_)
              refine WpD.condF rfl ?_
              repeat (first | refine js ?_ | refine jb ?_)
              refine WpD.skip ?_
              repeat (first | refine js ?_ | refine jb ?_)
              refine jr ?_
              refine jm rfl ?_
              refine jm rfl ?_
              refine jS (rt_bin_to rfl rfl (fun w => run_muli w _ _ _ _ _ _) (vint f1)) ?_
              refine jm rfl ?_
              refine jS (rt_bin_to rfl rfl (fun w => run_subi w _ _ _ _ _ _) (vint f2)) ?_
              refine jm rfl ?_
              refine jS (rt_bin_to rfl rfl (fun w => run_muli w _ _ _ _ _ _) (vint f3)) ?_
              refine jS (rt_bin_to rfl rfl (fun w => run_quoi w _ _ _ _ _ _ (by first | decide | omega | assumption)) (vint f5)) ?_
              refine ja rfl ?_
              refine RG.nil (by kernel_rfl) ?_
              repeat (first | refine js ?_ | refine jb ?_)
              refine jr ?_
              refine jm rfl ?_
              refine jm rfl ?_
              refine jS (rt_bin_to rfl rfl (fun w => run_gti w _ _ _ _ _ _) (vbool (decide_eq_false (by first | assumption | omega)))) ?_
              refine jm rfl ?_
              refine RG.S0 (LT.run rfl rfl rfl (rt_move rfl)) ?_
              refine RG.S0 (LT.run rfl rfl rfl (rt_move rfl)) ?_
              refine RG.S0 (LT.run rfl rfl rfl (rt_bin_to rfl rfl (fun w => run_eqi w _ _ _ _ _ _) (vbool (beqT (by first | assumption | omega))))) ?_
              refine RG.S0 (LT.run rfl rfl rfl (rt_move rfl)) ?_
              refine RG.S0 (LT.run rfl rfl rfl (rt_move rfl)) ?_
              refine RG.S0 (LT.run rfl rfl rfl (rt_bin_to rfl rfl (fun w => run_gei w _ _ _ _ _ _) (vbool (decide_eq_true (by first | assumption | omega))))) ?_
              refine RG.S0 (LT.run rfl rfl rfl (rt_pick_true rfl rfl)) ?_
              refine jS (rt_pick_false rfl rfl) ?_
              refine RG.nil (by kernel_rfl) ?_
              repeat (first | refine js ?_ | refine jb ?_)
              refine WpD.condT rfl ?_
              repeat (first | refine js ?_ | refine jb ?_)
              refine jr ?_
              refine jm rfl ?_
              refine jS (rt_bin_to rfl rfl (fun w => run_addi w _ _ _ _ _ _) (vint f7)) ?_
              refine ja rfl ?_
              refine RG.nil (by kernel_rfl) ?_
              repeat (first | refine js ?_ | refine jb ?_)
              refine jr ?_
              refine jm rfl ?_
              refine jS (rt_bin_to rfl rfl (fun w => run_addi w _ _ _ _ _ _) (vint f6)) ?_
              refine ja rfl ?_
              refine RG.nil (by kernel_rfl) ?_
              refine ⟨⟨t + 1, by omega⟩, ?_, by dsimp only; omega⟩
              dsimp only; rw [hs]
              refine Sub.mk ?_ ?_
              · repeat (first | exact trivial | refine jv rfl ?_ | refine jw rfl (js0 rfl) ?_ | refine jw rfl ⟨js0 rfl, js0 rfl⟩ ?_ | refine jx rfl ⟨js0 rfl, js0 rfl⟩ ?_ | refine jw rfl (clo_live (js0 rfl) (js0 rfl)) ?_ | refine ⟨⟨_, rfl, PLe.refl _⟩, trivial, ?_⟩)
              · repeat (first | exact trivial | refine jz ?_ | refine jy rfl ?_)
            · rw [hQ, decide_eq_true hr0, decide_eq_false hca, decide_eq_true hce, decide_eq_false hbt] at hs
              have hs : cntB D (p + 1) (t + 1) = cntB D (p + 1) t := hs
              repeat (first | refine js ?_ | refine jb ?_)
              refine jr ?_
              refine jm rfl ?_
              refine jm rfl ?_
              refine jS (rt_bin_to rfl rfl (fun w => run_lei w _ _ _ _ _ _) (vbool (decide_eq_true (by first | assumption | omega)))) ?_
              refine RG.nil (by kernel_rfl) ?_
              repeat (first | refine js ?_ | refine jb ?_)
              refine WpD.condT rfl ?_
              repeat (first | refine js ?_ | refine jb ?_)
              refine WpD.skip ?_
              repeat (first | refine js ?_ | refine jb ?_)
              refine jr ?_
              refine jm rfl ?_
              refine jm rfl ?_
              refine jS (rt_bin_to rfl rfl (fun w => run_muli w _ _ _ _ _ _) (vint f1)) ?_
              refine jm rfl ?_
              refine jS (rt_bin_to rfl rfl (fun w => run_subi w _ _ _ _ _ _) (vint f2)) ?_
              refine jm rfl ?_
              refine jS (rt_bin_to rfl rfl (fun w => run_muli w _ _ _ _ _ _) (vint f3)) ?_
              refine jS (rt_bin_to rfl rfl (fun w => run_remi w _ _ _ _ _ _ (by first | decide | omega | assumption)) (vint f4)) ?_
              refine jS (rt_bin_to rfl rfl (fun w => run_nei w _ _ _ _ _ _) (vbool (bneF (by first | assumption | omega)))) ?_
              refine RG.nil (by kernel_rfl) ?_
              repeat (first | refine js ?_ | refine jb ?_)
              refine WpD.condF rfl ?_
              repeat (first | refine js ?_ | refine jb ?_)
              refine WpD.skip ?_
              repeat (first | refine js ?_ | refine jb ?_)
              refine jr ?_
              refine jm rfl ?_
              refine jm rfl ?_
              refine jS (rt_bin_to rfl rfl (fun w => run_muli w _ _ _ _ _ _) (vint f1)) ?_
              refine jm rfl ?_
              refine jS (rt_bin_to rfl rfl (fun w => run_subi w _ _ _ _ _ _) (vint f2)) ?_
              refine jm rfl ?_
              refine jS (rt_bin_to rfl rfl (fun w => run_muli w _ _ _ _ _ _) (vint f3)) ?_
              refine jS (rt_bin_to rfl rfl (fun w => run_quoi w _ _ _ _ _ _ (by first | decide | omega | assumption)) (vint f5)) ?_
              refine ja rfl ?_
              refine RG.nil (by kernel_rfl) ?_
              repeat (first | refine js ?_ | refine jb ?_)
              refine jr ?_
              refine jm rfl ?_
              refine jm rfl ?_
              refine jS (rt_bin_to rfl rfl (fun w => run_gti w _ _ _ _ _ _) (vbool (decide_eq_false (by first | assumption | omega)))) ?_
              refine jm rfl ?_
              refine RG.S0 (LT.run rfl rfl rfl (rt_move rfl)) ?_
              refine RG.S0 (LT.run rfl rfl rfl (rt_move rfl)) ?_
              refine RG.S0 (LT.run rfl rfl rfl (rt_bin_to rfl rfl (fun w => run_eqi w _ _ _ _ _ _) (vbool (beqT (by first | assumption | omega))))) ?_
              refine RG.S0 (LT.run rfl rfl rfl (rt_move rfl)) ?_
              refine RG.S0 (LT.run rfl rfl rfl (rt_move rfl)) ?_
              refine RG.S0 (LT.run rfl rfl rfl (rt_bin_to rfl rfl (fun w => run_gei w _ _ _ _ _ _) (vbool (decide_eq_false (by first | assumption | omega))))) ?_
              refine RG.S0 (LT.run rfl rfl rfl (rt_pick_true rfl rfl)) ?_
              refine jS (rt_pick_false rfl rfl) ?_
              refine RG.nil (by kernel_rfl) ?_
              repeat (first | refine js ?_ | refine jb ?_)
              refine WpD.condF rfl ?_
              repeat (first | refine js ?_ | refine jb ?_)
              refine WpD.skip ?_
              repeat (first | refine js ?_ | refine jb ?_)
              refine jr ?_
              refine jm rfl ?_
              refine jS (rt_bin_to rfl rfl (fun w => run_addi w _ _ _ _ _ _) (vint f6)) ?_
              refine ja rfl ?_
              refine RG.nil (by kernel_rfl) ?_
              refine ⟨⟨t + 1, by omega⟩, ?_, by dsimp only; omega⟩
              dsimp only; rw [hs]
              refine Sub.mk ?_ ?_
              · repeat (first | exact trivial | refine jv rfl ?_ | refine jw rfl (js0 rfl) ?_ | refine jw rfl ⟨js0 rfl, js0 rfl⟩ ?_ | refine jx rfl ⟨js0 rfl, js0 rfl⟩ ?_ | refine jw rfl (clo_live (js0 rfl) (js0 rfl)) ?_ | refine ⟨⟨_, rfl, PLe.refl _⟩, trivial, ?_⟩)
              · repeat (first | exact trivial | refine jz ?_ | refine jy rfl ?_)
          · rw [hQ, decide_eq_true hr0, decide_eq_false hca, decide_eq_false hce] at hs
            have hs : cntB D (p + 1) (t + 1) = cntB D (p + 1) t := hs
            repeat (first | refine js ?_ | refine jb ?_)
            refine jr ?_
            refine jm rfl ?_
            refine jm rfl ?_
            refine jS (rt_bin_to rfl rfl (fun w => run_lei w _ _ _ _ _ _) (vbool (decide_eq_true (by first | assumption | omega)))) ?_
            refine RG.nil (by kernel_rfl) ?_
            repeat (first | refine js ?_ | refine jb ?_)
            refine WpD.condT rfl ?_
            repeat (first | refine js ?_ | refine jb ?_)
            refine WpD.skip ?_
            repeat (first | refine js ?_ | refine jb ?_)
            refine jr ?_
            refine jm rfl ?_
            refine jm rfl ?_
            refine jS (rt_bin_to rfl rfl (fun w => run_muli w _ _ _ _ _ _) (vint f1)) ?_
            refine jm rfl ?_
            refine jS (rt_bin_to rfl rfl (fun w => run_subi w _ _ _ _ _ _) (vint f2)) ?_
            refine jm rfl ?_
            refine jS (rt_bin_to rfl rfl (fun w => run_muli w _ _ _ _ _ _) (vint f3)) ?_
            refine jS (rt_bin_to rfl rfl (fun w => run_remi w _ _ _ _ _ _ (by first | decide | omega | assumption)) (vint f4)) ?_
            refine jS (rt_bin_to rfl rfl (fun w => run_nei w _ _ _ _ _ _) (vbool (bneF (by first | assumption | omega)))) ?_
            refine RG.nil (by kernel_rfl) ?_
            repeat (first | refine js ?_ | refine jb ?_)
            refine WpD.condF rfl ?_
            repeat (first | refine js ?_ | refine jb ?_)
            refine WpD.skip ?_
            repeat (first | refine js ?_ | refine jb ?_)
            refine jr ?_
            refine jm rfl ?_
            refine jm rfl ?_
            refine jS (rt_bin_to rfl rfl (fun w => run_muli w _ _ _ _ _ _) (vint f1)) ?_
            refine jm rfl ?_
            refine jS (rt_bin_to rfl rfl (fun w => run_subi w _ _ _ _ _ _) (vint f2)) ?_
            refine jm rfl ?_
            refine jS (rt_bin_to rfl rfl (fun w => run_muli w _ _ _ _ _ _) (vint f3)) ?_
            refine jS (rt_bin_to rfl rfl (fun w => run_quoi w _ _ _ _ _ _ (by first | decide | omega | assumption)) (vint f5)) ?_
            refine ja rfl ?_
            refine RG.nil (by kernel_rfl) ?_
            repeat (first | refine js ?_ | refine jb ?_)
            refine jr ?_
            refine jm rfl ?_
            refine jm rfl ?_
            refine jS (rt_bin_to rfl rfl (fun w => run_gti w _ _ _ _ _ _) (vbool (decide_eq_false (by first | assumption | omega)))) ?_
            refine jm rfl ?_
            refine RG.S0 (LT.run rfl rfl rfl (rt_move rfl)) ?_
            refine RG.S0 (LT.run rfl rfl rfl (rt_move rfl)) ?_
            refine RG.S0 (LT.run rfl rfl rfl (rt_bin_to rfl rfl (fun w => run_eqi w _ _ _ _ _ _) (vbool (beqF (by first | assumption | omega))))) ?_
            refine RG.S0 (LT.run rfl rfl rfl (rt_move rfl)) ?_
            refine RG.S0 (LT.skip rfl rfl rfl) ?_
            refine RG.S0 (LT.skip rfl rfl rfl) ?_
            refine RG.S0 (LT.run rfl rfl rfl (rt_pick_false rfl rfl)) ?_
            refine jS (rt_pick_false rfl rfl) ?_
            refine RG.nil (by kernel_rfl) ?_
            repeat (first | refine js ?_ | refine jb ?_)
            refine WpD.condF rfl ?_
            repeat (first | refine js ?_ | refine jb ?_)
            refine WpD.skip ?_
            repeat (first | refine js ?_ | refine jb ?_)
            refine jr ?_
            refine jm rfl ?_
            refine jS (rt_bin_to rfl rfl (fun w => run_addi w _ _ _ _ _ _) (vint f6)) ?_
            refine ja rfl ?_
            refine RG.nil (by kernel_rfl) ?_
            refine ⟨⟨t + 1, by omega⟩, ?_, by dsimp only; omega⟩
            dsimp only; rw [hs]
            refine Sub.mk ?_ ?_
            · repeat (first | exact trivial | refine jv rfl ?_ | refine jw rfl (js0 rfl) ?_ | refine jw rfl ⟨js0 rfl, js0 rfl⟩ ?_ | refine jx rfl ⟨js0 rfl, js0 rfl⟩ ?_ | refine jw rfl (clo_live (js0 rfl) (js0 rfl)) ?_ | refine ⟨⟨_, rfl, PLe.refl _⟩, trivial, ?_⟩)
            · repeat (first | exact trivial | refine jz ?_ | refine jy rfl ?_)
      · rw [hQ, decide_eq_false hr0] at hs
        have hs : cntB D (p + 1) (t + 1) = cntB D (p + 1) t := hs
        repeat (first | refine js ?_ | refine jb ?_)
        refine jr ?_
        refine jm rfl ?_
        refine jm rfl ?_
        refine jS (rt_bin_to rfl rfl (fun w => run_lei w _ _ _ _ _ _) (vbool (decide_eq_true (by first | assumption | omega)))) ?_
        refine RG.nil (by kernel_rfl) ?_
        repeat (first | refine js ?_ | refine jb ?_)
        refine WpD.condT rfl ?_
        repeat (first | refine js ?_ | refine jb ?_)
        refine WpD.skip ?_
        repeat (first | refine js ?_ | refine jb ?_)
        refine jr ?_
        refine jm rfl ?_
        refine jm rfl ?_
        refine jS (rt_bin_to rfl rfl (fun w => run_muli w _ _ _ _ _ _) (vint f1)) ?_
        refine jm rfl ?_
        refine jS (rt_bin_to rfl rfl (fun w => run_subi w _ _ _ _ _ _) (vint f2)) ?_
        refine jm rfl ?_
        refine jS (rt_bin_to rfl rfl (fun w => run_muli w _ _ _ _ _ _) (vint f3)) ?_
        refine jS (rt_bin_to rfl rfl (fun w => run_remi w _ _ _ _ _ _ (by first | decide | omega | assumption)) (vint f4)) ?_
        refine jS (rt_bin_to rfl rfl (fun w => run_nei w _ _ _ _ _ _) (vbool (bneT (by first | assumption | omega)))) ?_
        refine RG.nil (by kernel_rfl) ?_
        repeat (first | refine js ?_ | refine jb ?_)
        refine WpD.condT rfl ?_
        repeat (first | refine js ?_ | refine jb ?_)
        refine WpD.exit ?_
        repeat (first | refine js ?_ | refine jb ?_)
        refine jr ?_
        refine jm rfl ?_
        refine jS (rt_bin_to rfl rfl (fun w => run_addi w _ _ _ _ _ _) (vint f6)) ?_
        refine ja rfl ?_
        refine RG.nil (by kernel_rfl) ?_
        refine ⟨⟨t + 1, by omega⟩, ?_, by dsimp only; omega⟩
        dsimp only; rw [hs]
        refine Sub.mk ?_ ?_
        · repeat (first | exact trivial | refine jv rfl ?_ | refine jw rfl (js0 rfl) ?_ | refine jw rfl ⟨js0 rfl, js0 rfl⟩ ?_ | refine jx rfl ⟨js0 rfl, js0 rfl⟩ ?_ | refine jw rfl (clo_live (js0 rfl) (js0 rfl)) ?_ | refine ⟨⟨_, rfl, PLe.refl _⟩, trivial, ?_⟩)
        · repeat (first | exact trivial | refine jz ?_ | refine jy rfl ?_)
    · have : t = 2 * (p + 1) := by omega
      subst this
      repeat (first | refine js ?_ | refine jb ?_)
      refine jr ?_
      refine jm rfl ?_
      refine jm rfl ?_
      refine jS (rt_bin_to rfl rfl (fun w => run_lei w _ _ _ _ _ _) (vbool (decide_eq_false (by first | assumption | omega)))) ?_
      refine RG.nil (by kernel_rfl) ?_
      repeat (first | refine js ?_ | refine jb ?_)
      refine WpD.condF rfl ?_
      repeat (first | refine js ?_ | refine jb ?_)
      refine WpD.exit ?_
      repeat (first | refine js ?_ | refine jb ?_)
      refine jr ?_
      refine jm rfl ?_
      refine jS (rt_bin_to rfl rfl (fun w => run_addi w _ _ _ _ _ _) (vint ea)) ?_
      refine ja rfl ?_
      refine RG.nil (by kernel_rfl) ?_
      refine ⟨⟨p + 1, by omega⟩, ?_, by dsimp only; omega⟩
      dsimp only; rw [cntA]
      refine Sub.mk ?_ ?_
      · repeat (first | exact trivial | refine jv rfl ?_ | refine jw rfl (js0 rfl) ?_ | refine jw rfl ⟨js0 rfl, js0 rfl⟩ ?_ | refine jx rfl ⟨js0 rfl, js0 rfl⟩ ?_ | refine jw rfl (clo_live (js0 rfl) (js0 rfl)) ?_ | refine ⟨⟨_, rfl, PLe.refl _⟩, trivial, ?_⟩)
      · repeat (first | exact trivial | refine jz ?_ | refine jy rfl ?_)
  · have : p = a3 D 20 := by omega
    subst this
    have hnle : ¬ 3 * (a3 D 20 + 1) * (a3 D 20 + 1) ≤ D := fun h => hlt (hiff.2 h)
    have en : IntKind.i64.wrap (-((cntA D (a3 D 20) : Nat) : Int)) = -(cnt D : Int) := w64 (by omega) (by omega)
    repeat (first | refine js ?_ | refine jb ?_)
    refine jr ?_
    refine jm rfl ?_
    refine jS (rt_bin_to rfl rfl (fun w => run_muli w _ _ _ _ _ _) (vint e1)) ?_
    refine jm rfl ?_
    refine jS (rt_bin_to rfl rfl (fun w => run_muli w _ _ _ _ _ _) (vint e2)) ?_
    refine jm rfl ?_
    refine jS (rt_un_to rfl (fun w => run_negi w _ _) (vint eD)) ?_
    refine jS (rt_bin_to rfl rfl (fun w => run_lei w _ _ _ _ _ _) (vbool (decide_eq_false (fun hh => hnle (Int.ofNat_le.1 hh))))) ?_
    refine RG.nil (by kernel_rfl) ?_
    repeat (first | refine js ?_ | refine jb ?_)
    refine WpD.condF rfl ?_
    repeat (first | refine js ?_ | refine jb ?_)
    refine WpD.exit ?_
    repeat (first | refine js ?_ | refine jb ?_)
    refine jr ?_
    refine jm rfl ?_
    refine jS (ru_call C1 ⟨rfl, rfl, trivial⟩) ?_
    refine jm rfl ?_
    refine jS (rt_extract rfl rfl) ?_
    refine jS (rt_extract rfl rfl) ?_
    refine jT (ru_alloc rfl rfl rfl) ?_
    refine jO (ru_storeR rfl rfl rfl rfl rfl rfl) ?_
    refine ja rfl ?_
    refine RG.nil (by kernel_rfl) ?_
    repeat (first | refine js ?_ | refine jb ?_)
    repeat (first | refine js ?_ | refine jb ?_)
    refine jr ?_
    refine jm rfl ?_
    refine jS (rt_bin rfl rfl (fun w => run_eqi w _ _ _ _ _ _)) ?_
    refine jm rfl ?_
    first | refine RG.S0 (LT.run rfl rfl rfl (ru_loadR rfl rfl rfl rfl)) ?_ | refine RG.S0 (LT.skip rfl rfl rfl) ?_ | refine RG.S0 (LT.skipU rfl rfl rfl) ?_
    first | refine RG.S0 (LT.run rfl rfl rfl (rt_move rfl)) ?_ | refine RG.S0 (LT.skip rfl rfl rfl) ?_ | refine RG.S0 (LT.skipU rfl rfl rfl) ?_
    first | refine RG.S0 (LT.run rfl rfl rfl (rt_un_to rfl (fun w => run_negi w _ _) (vint en))) ?_ | refine RG.S0 (LT.skip rfl rfl rfl) ?_ | refine RG.S0 (LT.skipU rfl rfl rfl) ?_
    first | refine RG.S0 (LT.run rfl rfl rfl (ru_call C2 ⟨rfl, trivial⟩)) ?_ | refine RG.S0 (LT.skip rfl rfl rfl) ?_ | refine RG.S0 (LT.skipU rfl rfl rfl) ?_
    first | refine RG.S0 (LT.run rfl rfl rfl (ru_call C3 ⟨rfl, rfl, trivial⟩)) ?_ | refine RG.S0 (LT.skip rfl rfl rfl) ?_ | refine RG.S0 (LT.skipU rfl rfl rfl) ?_
    first | refine RG.S0 (LT.run rfl rfl rfl (rt_bin rfl rfl (fun w => run_eqi w _ _ _ _ _ _))) ?_ | refine RG.S0 (LT.skip rfl rfl rfl) ?_ | refine RG.S0 (LT.skipU rfl rfl rfl) ?_
    first | refine jS (rt_pick_true rfl rfl) ?_ | refine jS (rt_pick_false rfl rfl) ?_
    refine jm rfl ?_
    first | refine RG.S0 (LT.run rfl rfl rfl (ru_call lawake trivial)) ?_ | refine RG.S0 (LT.skip rfl rfl rfl) ?_ | refine RG.S0 (LT.skipU rfl rfl rfl) ?_
    first | refine jS (rt_pick_true rfl rfl) ?_ | refine jS (rt_pick_false rfl rfl) ?_
    refine ja rfl ?_
    refine RG.nil (by kernel_rfl) ?_
    repeat (first | refine js ?_ | refine jb ?_)
    refine WpD.ret ?_
    exact ret1 rfl (.tmp rfl) (PLe.refl _)
theorem law_BernoulliClasses (n : Int) (w : World) (wn : (Lit.int .i16 n).wf = true) (ht : Tab w) :
    Calls Tryd.prog 6 #[.int .i16 n] w fun e w' => e = .returned (.bool true) ∧ Below w.heap.size w w' :=
  have _ := wn
  fn_true (lclasses n) w ht ⟨rfl, trivial⟩
end Go.Proofs.YtgbiccenhionaaaDoor

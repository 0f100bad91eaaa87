/- Statements of chapter 31: Sums, Symmetry, Steps. -/
import Derived.Test.YtgbiccenhionaaaDoorPo
set_option maxRecDepth 3000
namespace Go.Proofs.YtgbiccenhionaaaDoor
open Go.RowKit Limb Num
theorem rat_sub_zero {a b : Rat} (h : a = b) : sg3 (a - b).num = 0 := by subst h; rw [Rat.sub_self]; rfl
theorem cmpQ_self (a : Rat) : cmpQ a a = 0 := by unfold cmpQ cmpZ; simp
section
variable (En : Ev)
theorem gratio (a b : Int) (h1 : -9223372036854775808 ≤ a) (h2 : a ≤ 9223372036854775807) (h3 : -9223372036854775808 ≤ b) (h4 : b ≤ 9223372036854775807) (hb : b ≠ 0) : Fn Tryd.prog En 33 [ex (.int .i64 a), ex (.int .i64 b)] (qC (Rat.divInt a b)) := by
  have C1 := fsmall En a h1 h2
  have C2 := fsmall En b h3 h4
  have C3 := knew En a b (Nat.le_trans (zl_small (by omega) (by omega)) (show 2 ≤ 536870912 by omega)) (Nat.le_trans (zl_small (by omega) (by omega)) (show 2 ≤ 536870912 by omega)) hb
  refine fn_of_body Tryd.func33 rfl Tryd.ntmps33 rfl ?_
  intro w0 h0
  repeat (first | refine js ?_ | refine jb ?_)
  refine jr ?_
  refine jT (ru_alloc rfl rfl rfl) ?_
  refine RG.nil (by kernel_rfl) ?_
  repeat (first | refine js ?_ | refine jb ?_)
  refine jr ?_
  refine jm rfl ?_
  refine jS (ru_call C1 ⟨rfl, trivial⟩) ?_
  refine jm rfl ?_
  refine jS (ru_call C2 ⟨rfl, trivial⟩) ?_
  refine jS (ru_call C3 ⟨rfl, rfl, trivial⟩) ?_
  refine jm rfl ?_
  refine jS (rt_extract rfl rfl) ?_
  refine jS (rt_extract rfl rfl) ?_
  refine jT (ru_alloc rfl rfl rfl) ?_
  refine jO (ru_storeR rfl rfl rfl rfl rfl rfl) ?_
  refine ja rfl ?_
  refine RG.nil (by kernel_rfl) ?_
  repeat (first | refine js ?_ | refine jb ?_)
  refine jr ?_
  refine jS (ru_loadR rfl rfl rfl rfl) ?_
  refine jO (ru_storeR rfl rfl rfl rfl rfl rfl) ?_
  refine RG.nil (by kernel_rfl) ?_
  repeat (first | refine js ?_ | refine jb ?_)
  refine WpD.ret ?_
  exact ret1 rfl (.cell rfl rfl CRow.ok rfl) (PLe.refl _)
end
theorem sz_ratio {a b : Int} (h1 : -9223372036854775808 ≤ a) (h2 : a ≤ 9223372036854775807) (h3 : -9223372036854775808 ≤ b) (h4 : b ≤ 9223372036854775807) (hb : b ≠ 0) : Sz 2 (Rat.divInt a b) := szq_divInt hb (zl_small (by omega) (by omega)) (zl_small (by omega) (by omega))
theorem spw_sz {e : Nat} (he : e ≤ 11) : ∀ n : Nat, n ≤ 255 → Sz (n * 24 + 2) (spw e n)
  | 0, _ => ⟨show zl (0 : Rat).num ≤ 2 by decide, show zl (((0 : Rat).den : Nat) : Int) ≤ 2 by decide⟩
  | n + 1, h => (szq_add (spw_sz he n (by omega)) (szq_pow (sz_z (z := (n : Int)) (by omega) (by omega)) e)).mono (by omega)
set_option maxHeartbeats 1000000 in
theorem lsums (k n : Int) (k1 : 0 ≤ k) (k2 : k ≤ 255) (n1 : 0 ≤ n) (n2 : n ≤ 255) : Fn Tryd.prog TabE 10 [ex (.int .u8 k), ex (.int .u8 n)] (ex (.bool true)) := by
  obtain ⟨e, he⟩ : ∃ e : Nat, k % 12 = (e : Int) := ⟨(k % 12).toNat, by omega⟩
  obtain ⟨m, rfl⟩ : ∃ m : Nat, n = (m : Int) := ⟨n.toNat, by omega⟩
  have he2 : e ≤ 11 := by omega
  have w1 : IntKind.i64.wrap k = k := w64 (by omega) (by omega)
  have w2 : k.tmod 12 = (e : Int) := by rw [Int.tmod_eq_emod_of_nonneg k1]; exact he
  have w3 : IntKind.i64.wrap ((e : Int) + 1) = ((e + 1 : Nat) : Int) := by rw [w64 (by omega) (by omega)]; rfl
  have w3' : IntKind.i64.wrap ((e : Int) + 1) = (e : Int) + 1 := w64 (by omega) (by omega)
  have w4 : IntKind.i64.wrap (m : Int) = (m : Int) := w64 (by omega) (by omega)
  have Sm := sz_z (z := (m : Int)) (by omega) (by omega)
  have Se := sz_z (z := (e : Int) + 1) (by omega) (by omega)
  have Sb := bern_sz (i := e + 1) (by omega)
  have Sp := pv_sz (k := e + 1) (by omega) Sm
  have C1 := qsmall TabE (m : Int) (by omega) (by omega)
  have C2 := kbpoly TabE (e + 1) ((m : Int) : Rat) (by omega) (Sm.mono (by omega))
  have C3 := bnumber TabE (e + 1) (by omega)
  have W0 := qsmall TabE 0 (by omega) (by omega)
  refine fn_of_body Tryd.func10 rfl Tryd.ntmps10 rfl ?_
  intro w0 h0
  repeat (first | refine js ?_ | refine jb ?_)
  refine jr ?_
  refine ja rfl ?_
  refine RG.nil (by kernel_rfl) ?_
  repeat (first | refine js ?_ | refine jb ?_)
  refine jr ?_
  refine jm rfl ?_
  refine jS (rt_conv_to rfl (fun w => run_convi w CInt.ok CInt.ok _ _) (vint w1)) ?_
  refine jS (rt_bin_to rfl rfl (fun w => run_remi w _ _ _ _ _ _ (by first | decide | omega | assumption)) (vint w2)) ?_
  refine ja rfl ?_
  refine RG.nil (by kernel_rfl) ?_
  repeat (first | refine js ?_ | refine jb ?_)
  refine jr ?_
  refine jm rfl ?_
  refine jS (rt_bin_to rfl rfl (fun w => run_addi w _ _ _ _ _ _) (vint w3)) ?_
  refine jm rfl ?_
  refine jS (rt_conv_to rfl (fun w => run_convi w CInt.ok CInt.ok _ _) (vint w4)) ?_
  refine jS (ru_call C1 ⟨rfl, trivial⟩) ?_
  refine jS (ru_call C2 ⟨rfl, rfl, trivial⟩) ?_
  refine jm rfl ?_
  refine jS (rt_extract rfl rfl) ?_
  refine jS (rt_extract rfl rfl) ?_
  refine jT (ru_alloc rfl rfl rfl) ?_
  refine jO (ru_storeR rfl rfl rfl rfl rfl rfl) ?_
  refine ja rfl ?_
  refine RG.nil (by kernel_rfl) ?_
  repeat (first | refine js ?_ | refine jb ?_)
  refine jr ?_
  refine jm rfl ?_
  refine jS (rt_bin_to rfl rfl (fun w => run_addi w _ _ _ _ _ _) (vint w3)) ?_
  refine jS (ru_call C3 ⟨rfl, trivial⟩) ?_
  refine jm rfl ?_
  refine jS (rt_extract rfl rfl) ?_
  refine jS (rt_extract rfl rfl) ?_
  refine jT (ru_alloc rfl rfl rfl) ?_
  refine jO (ru_storeR rfl rfl rfl rfl rfl rfl) ?_
  refine ja rfl ?_
  refine RG.nil (by kernel_rfl) ?_
  repeat (first | refine js ?_ | refine jb ?_)
  refine jr ?_
  refine jS (ru_call W0 ⟨rfl, trivial⟩) ?_
  refine jT (ru_alloc rfl rfl rfl) ?_
  refine jO (ru_storeR rfl rfl rfl rfl rfl rfl) ?_
  refine RG.nil (by kernel_rfl) ?_
  repeat (first | refine js ?_ | refine jb ?_)
  refine jr ?_
  refine ja rfl ?_
  refine RG.nil (by kernel_rfl) ?_
  repeat (first | refine js ?_ | refine jb ?_)
  refine WpD.loop (α := {i : Nat // i ≤ m}) (fun i => ⟨[(1, .one (ex (.int .u8 (m : Int)))), (5, .one (ex (.int .i64 (e : Int)))), (6, .ptr 6 0), (7, .one (ex (.int .i64 0))), (8, .ptr 8 0), (9, .one (ex (.int .i64 0))), (10, .ptr 10 0), (11, .one (ex (.int .i64 (i.1 : Int))))], [(6, qCells (pv (e + 1) ((m : Int) : Rat))), (8, qCells (bern (e + 1))), (10, qCells (spw e i.1))]⟩) (fun i => m - i.1) ⟨0, Nat.zero_le _⟩ ?_ ?_
  · refine Sub.mk ?_ ?_
    · repeat (first | exact trivial | refine jv rfl ?_ | refine jw rfl (js0 rfl) ?_ | refine jw rfl ⟨js0 rfl, js0 rfl⟩ ?_ | refine jx rfl ⟨js0 rfl, js0 rfl⟩ ?_ | refine jw rfl (clo_live (js0 rfl) (js0 rfl)) ?_ | refine ⟨⟨_, rfl, PLe.refl _⟩, trivial, ?_⟩)
    · repeat (first | exact trivial | refine jz ?_ | refine jy rfl ?_)
  rintro ⟨i, hi⟩
  dsimp only at hi ⊢
  by_cases hlt : i < m
  · have Si := sz_z (z := (i : Int)) (by omega) (by omega)
    have C4 := qsmall TabE (i : Int) (by omega) (by omega)
    have C5 := qpow TabE ((i : Int) : Rat) e (Si.mono (by omega)) (by omega)
    have C6 := kqadd TabE (spw e i) (((i : Int) : Rat) ^ e) ((spw_sz he2 i (by omega)).mono (by omega)) ((szq_pow Si e).mono (by omega))
    have e3 : IntKind.i64.wrap ((i : Int) + 1) = ((i + 1 : Nat) : Int) := by rw [w64 (by omega) (by omega)]; rfl
    repeat (first | refine js ?_ | refine jb ?_)
    refine jr ?_
    refine jm rfl ?_
    refine jm rfl ?_
    refine jS (rt_conv_to rfl (fun w => run_convi w CInt.ok CInt.ok _ _) (vint w4)) ?_
    refine jS (rt_bin_to rfl rfl (fun w => run_lti w _ _ _ _ _ _) (vbool (decide_eq_true (by first | assumption | omega)))) ?_
    refine RG.nil (by kernel_rfl) ?_
    repeat (first | refine js ?_ | refine jb ?_)
    refine WpD.condT rfl ?_
    repeat (first | refine js ?_ | refine jb ?_)
    refine WpD.skip ?_
    repeat (first | refine js ?_ | refine jb ?_)
    refine jr ?_
    refine jm rfl ?_
    refine jS (ru_call C4 ⟨rfl, trivial⟩) ?_
    refine jm rfl ?_
    refine jS (ru_call C5 ⟨rfl, rfl, trivial⟩) ?_
    refine jm rfl ?_
    refine jS (rt_extract rfl rfl) ?_
    refine jS (rt_extract rfl rfl) ?_
    refine jT (ru_alloc rfl rfl rfl) ?_
    refine jO (ru_storeR rfl rfl rfl rfl rfl rfl) ?_
    refine ja rfl ?_
    refine RG.nil (by kernel_rfl) ?_
    repeat (first | refine js ?_ | refine jb ?_)
    refine jr ?_
    refine jS (ru_loadR rfl rfl rfl rfl) ?_
    refine jS (ru_loadR rfl rfl rfl rfl) ?_
    refine jS (ru_call C6 ⟨rfl, rfl, trivial⟩) ?_
    refine jO (ru_storeR rfl rfl rfl rfl rfl rfl) ?_
    refine RG.nil (by kernel_rfl) ?_
    repeat (first | refine js ?_ | refine jb ?_)
    refine jr ?_
    refine jm rfl ?_
    refine jS (rt_bin_to rfl rfl (fun w => run_addi w _ _ _ _ _ _) (vint e3)) ?_
    refine ja rfl ?_
    refine RG.nil (by kernel_rfl) ?_
    refine ⟨⟨i + 1, by omega⟩, ?_, by dsimp only; omega⟩
    refine Sub.mk ?_ ?_
    · repeat (first | exact trivial | refine jv rfl ?_ | refine jw rfl (js0 rfl) ?_ | refine jw rfl ⟨js0 rfl, js0 rfl⟩ ?_ | refine jx rfl ⟨js0 rfl, js0 rfl⟩ ?_ | refine jw rfl (clo_live (js0 rfl) (js0 rfl)) ?_ | refine ⟨⟨_, rfl, PLe.refl _⟩, trivial, ?_⟩)
    · repeat (first | exact trivial | refine jz ?_ | refine jy rfl ?_)
  · have : i = m := by omega
    subst this
    have Ss := spw_sz he2 i (by omega)
    have C7 := krsub TabE (pv (e + 1) ((i : Int) : Rat)) (bern (e + 1)) (Sp.mono (by omega)) (Sb.mono (by omega))
    have C8 := qsmall TabE ((e : Int) + 1) (by omega) (by omega)
    have C9 := kqmul TabE (spw e i) (((e : Int) + 1 : Int) : Rat) (Ss.mono (by omega)) (Se.mono (by omega))
    have heq := spw_pv he2 i
    have hsz : Sz 67108860 (spw e i * (((e : Int) + 1 : Int) : Rat)) := (szq_mul Ss Se).mono (by omega)
    have C10 := kqcmp TabE (pv (e + 1) ((i : Int) : Rat) - bern (e + 1)) (spw e i * (((e : Int) + 1 : Int) : Rat)) (by rw [heq]; exact hsz) hsz
    rw [rat_sub_zero heq] at C10
    repeat (first | refine js ?_ | refine jb ?_)
    refine jr ?_
    refine jm rfl ?_
    refine jm rfl ?_
    refine jS (rt_conv_to rfl (fun w => run_convi w CInt.ok CInt.ok _ _) (vint w4)) ?_
    refine jS (rt_bin_to rfl rfl (fun w => run_lti w _ _ _ _ _ _) (vbool (decide_eq_false (by first | assumption | omega)))) ?_
    refine RG.nil (by kernel_rfl) ?_
    repeat (first | refine js ?_ | refine jb ?_)
    refine WpD.condF rfl ?_
    repeat (first | refine js ?_ | refine jb ?_)
    refine WpD.exit ?_
    repeat (first | refine js ?_ | refine jb ?_)
    repeat (first | refine js ?_ | refine jb ?_)
    refine jr ?_
    refine jm rfl ?_
    refine jS (rt_bin rfl rfl (fun w => run_eqi w _ _ _ _ _ _)) ?_
    refine jm rfl ?_
    first | refine RG.S0 (LT.run rfl rfl rfl (rt_move rfl)) ?_ | refine RG.S0 (LT.skip rfl rfl rfl) ?_
    first | refine RG.S0 (LT.run rfl rfl rfl (rt_bin rfl rfl (fun w => run_eqi w _ _ _ _ _ _))) ?_ | refine RG.S0 (LT.skip rfl rfl rfl) ?_
    first | refine jS (rt_pick_true rfl rfl) ?_ | refine jS (rt_pick_false rfl rfl) ?_
    refine jm rfl ?_
    first | refine RG.S0 (LT.run rfl rfl rfl (ru_loadR rfl rfl rfl rfl)) ?_ | refine RG.S0 (LT.skip rfl rfl rfl) ?_
    first | refine RG.S0 (LT.run rfl rfl rfl (ru_loadR rfl rfl rfl rfl)) ?_ | refine RG.S0 (LT.skip rfl rfl rfl) ?_
    first | refine RG.S0 (LT.run rfl rfl rfl (ru_call C7 ⟨rfl, rfl, trivial⟩)) ?_ | refine RG.S0 (LT.skip rfl rfl rfl) ?_
    first | refine RG.S0 (LT.run rfl rfl rfl (ru_loadR rfl rfl rfl rfl)) ?_ | refine RG.S0 (LT.skip rfl rfl rfl) ?_
    first | refine RG.S0 (LT.run rfl rfl rfl (rt_move rfl)) ?_ | refine RG.S0 (LT.skip rfl rfl rfl) ?_
    first | refine RG.S0 (LT.run rfl rfl rfl (rt_bin_to rfl rfl (fun w => run_addi w _ _ _ _ _ _) (vint w3'))) ?_ | refine RG.S0 (LT.skip rfl rfl rfl) ?_
    first | refine RG.S0 (LT.run rfl rfl rfl (ru_call C8 ⟨rfl, trivial⟩)) ?_ | refine RG.S0 (LT.skip rfl rfl rfl) ?_
    first | refine RG.S0 (LT.run rfl rfl rfl (ru_call C9 ⟨rfl, rfl, trivial⟩)) ?_ | refine RG.S0 (LT.skip rfl rfl rfl) ?_
    first | refine RG.S0 (LT.run rfl rfl rfl (ru_call C10 ⟨rfl, rfl, trivial⟩)) ?_ | refine RG.S0 (LT.skip rfl rfl rfl) ?_
    first | refine RG.S0 (LT.run rfl rfl rfl (rt_bin rfl rfl (fun w => run_eqi w _ _ _ _ _ _))) ?_ | refine RG.S0 (LT.skip rfl rfl rfl) ?_
    first | refine jS (rt_pick_true rfl rfl) ?_ | refine jS (rt_pick_false rfl rfl) ?_
    refine jm rfl ?_
    first | refine RG.S0 (LT.run rfl rfl rfl (ru_call lawake trivial)) ?_ | refine RG.S0 (LT.skip rfl rfl rfl) ?_
    first | refine jS (rt_pick_true rfl rfl) ?_ | refine jS (rt_pick_false rfl rfl) ?_
    refine ja rfl ?_
    refine RG.nil (by kernel_rfl) ?_
    repeat (first | refine js ?_ | refine jb ?_)
    refine WpD.ret ?_
    exact ret1 rfl (.tmp rfl) (PLe.refl _)
set_option maxHeartbeats 1000000 in
theorem lsymm (k a b : Int) (k1 : 0 ≤ k) (k2 : k ≤ 255) (a1 : -32768 ≤ a) (a2 : a ≤ 32767) (b1 : 0 ≤ b) (b2 : b ≤ 255) : Fn Tryd.prog TabE 11 [ex (.int .u8 k), ex (.int .i16 a), ex (.int .u8 b)] (ex (.bool true)) := by
  obtain ⟨n, hn⟩ : ∃ n : Nat, k % 21 = (n : Int) := ⟨(k % 21).toNat, by omega⟩
  have hn2 : n ≤ 20 := by omega
  have w1 : IntKind.i64.wrap k = k := w64 (by omega) (by omega)
  have w2 : k.tmod 21 = (n : Int) := by rw [Int.tmod_eq_emod_of_nonneg k1]; exact hn
  have w3 : IntKind.i64.wrap a = a := w64 (by omega) (by omega)
  have w4 : IntKind.i64.wrap b = b := w64 (by omega) (by omega)
  have w5 : IntKind.i64.wrap (1 + b) = 1 + b := w64 (by omega) (by omega)
  have w6 : ((n : Nat) : Int).tmod 2 = ((n % 2 : Nat) : Int) := (Int.ofNat_tmod _ 2).symm
  have C1 := gratio TabE a (1 + b) (by omega) (by omega) (by omega) (by omega) (by omega)
  have Sx := sz_ratio (a := a) (b := 1 + b) (by omega) (by omega) (by omega) (by omega) (by omega)
  generalize Rat.divInt a (1 + b) = x at *
  have S1 := sz_z (z := 1) (by omega) (by omega)
  have C2 := qsmall TabE 1 (by omega) (by omega)
  have C3 := kqsub TabE ((1 : Int) : Rat) x (S1.mono (by omega)) (Sx.mono (by omega))
  rw [show ((1 : Int) : Rat) = 1 from rfl] at C2 C3 S1
  have Sy : Sz 5 (1 - x) := by rw [Rat.sub_eq_add_neg]; exact szq_add S1 (szq_neg Sx)
  have C4 := kbpoly TabE n (1 - x) hn2 (Sy.mono (by omega))
  have C5 := kbpoly TabE n x hn2 (Sx.mono (by omega))
  have Sv := pv_sz hn2 Sx
  have Sw := pv_sz hn2 Sy
  have hsy := pv_symm hn2 x
  by_cases hodd : n % 2 = 1
  · rw [if_pos hodd] at hsy
    have C6 := krneg TabE (pv n x) (Sv.mono (by omega))
    have C7 := krcmp TabE (pv n (1 - x)) (-(pv n x)) (Sw.mono (by omega)) ((szq_neg Sv).mono (by omega))
    rw [hsy, cmpQ_self] at C7
    rw [hsy] at C4
    have bq : (((n % 2 : Nat) : Int) == 1) = true := by rw [hodd]; rfl
    refine fn_of_body Tryd.func11 rfl Tryd.ntmps11 rfl ?_
    intro w0 h0
    repeat (first | refine js ?_ | refine jb ?_)
    refine jr ?_
    refine ja rfl ?_
    refine RG.nil (by kernel_rfl) ?_
    repeat (first | refine js ?_ | refine jb ?_)
    refine jr ?_
    refine jm rfl ?_
    refine jS (rt_conv_to rfl (fun w => run_convi w CInt.ok CInt.ok _ _) (vint w1)) ?_
    refine jS (rt_bin_to rfl rfl (fun w => run_remi w _ _ _ _ _ _ (by first | decide | omega | assumption)) (vint w2)) ?_
    refine ja rfl ?_
    refine RG.nil (by kernel_rfl) ?_
    repeat (first | refine js ?_ | refine jb ?_)
    refine jr ?_
    refine jm rfl ?_
    refine jS (rt_conv_to rfl (fun w => run_convi w CInt.ok CInt.ok _ _) (vint w3)) ?_
    refine jm rfl ?_
    refine jS (rt_conv_to rfl (fun w => run_convi w CInt.ok CInt.ok _ _) (vint w4)) ?_
    refine jS (rt_bin_to rfl rfl (fun w => run_addi w _ _ _ _ _ _) (vint w5)) ?_
    refine jS (ru_call C1 ⟨rfl, rfl, trivial⟩) ?_
    refine jT (ru_alloc rfl rfl rfl) ?_
    refine jO (ru_storeR rfl rfl rfl rfl rfl rfl) ?_
    refine RG.nil (by kernel_rfl) ?_
    repeat (first | refine js ?_ | refine jb ?_)
    refine jr ?_
    refine jm rfl ?_
    refine jS (ru_call C2 ⟨rfl, trivial⟩) ?_
    refine jS (ru_loadR rfl rfl rfl rfl) ?_
    refine jS (ru_call C3 ⟨rfl, rfl, trivial⟩) ?_
    refine jS (ru_call C4 ⟨rfl, rfl, trivial⟩) ?_
    refine jm rfl ?_
    refine jS (rt_extract rfl rfl) ?_
    refine jS (rt_extract rfl rfl) ?_
    refine jT (ru_alloc rfl rfl rfl) ?_
    refine jO (ru_storeR rfl rfl rfl rfl rfl rfl) ?_
    refine ja rfl ?_
    refine RG.nil (by kernel_rfl) ?_
    repeat (first | refine js ?_ | refine jb ?_)
    refine jr ?_
    refine jm rfl ?_
    refine jS (ru_loadR rfl rfl rfl rfl) ?_
    refine jS (ru_call C5 ⟨rfl, rfl, trivial⟩) ?_
    refine jm rfl ?_
    refine jS (rt_extract rfl rfl) ?_
    refine jS (rt_extract rfl rfl) ?_
    refine jT (ru_alloc rfl rfl rfl) ?_
    refine jO (ru_storeR rfl rfl rfl rfl rfl rfl) ?_
    refine ja rfl ?_
    refine RG.nil (by kernel_rfl) ?_
    repeat (first | refine js ?_ | refine jb ?_)
    refine jr ?_
    refine jm rfl ?_
    refine jS (rt_bin_to rfl rfl (fun w => run_remi w _ _ _ _ _ _ (by first | decide | omega | assumption)) (vint w6)) ?_
    refine jS (rt_bin_to rfl rfl (fun w => run_eqi w _ _ _ _ _ _) (vbool bq)) ?_
    refine RG.nil (by kernel_rfl) ?_
    repeat (first | refine js ?_ | refine jb ?_)
    refine WpD.condT rfl ?_
    repeat (first | refine js ?_ | refine jb ?_)
    refine jr ?_
    refine jS (ru_loadR rfl rfl rfl rfl) ?_
    refine jS (ru_call C6 ⟨rfl, trivial⟩) ?_
    refine jO (ru_storeR rfl rfl rfl rfl rfl rfl) ?_
    refine RG.nil (by kernel_rfl) ?_
    repeat (first | refine js ?_ | refine jb ?_)
    repeat (first | refine js ?_ | refine jb ?_)
    refine jr ?_
    refine jm rfl ?_
    refine jS (rt_bin rfl rfl (fun w => run_eqi w _ _ _ _ _ _)) ?_
    refine jm rfl ?_
    first | refine RG.S0 (LT.run rfl rfl rfl (rt_move rfl)) ?_ | refine RG.S0 (LT.skip rfl rfl rfl) ?_
    first | refine RG.S0 (LT.run rfl rfl rfl (rt_bin rfl rfl (fun w => run_eqi w _ _ _ _ _ _))) ?_ | refine RG.S0 (LT.skip rfl rfl rfl) ?_
    first | refine jS (rt_pick_true rfl rfl) ?_ | refine jS (rt_pick_false rfl rfl) ?_
    refine jm rfl ?_
    first | refine RG.S0 (LT.run rfl rfl rfl (ru_loadR rfl rfl rfl rfl)) ?_ | refine RG.S0 (LT.skip rfl rfl rfl) ?_
    first | refine RG.S0 (LT.run rfl rfl rfl (ru_loadR rfl rfl rfl rfl)) ?_ | refine RG.S0 (LT.skip rfl rfl rfl) ?_
    first | refine RG.S0 (LT.run rfl rfl rfl (ru_call C7 ⟨rfl, rfl, trivial⟩)) ?_ | refine RG.S0 (LT.skip rfl rfl rfl) ?_
    first | refine RG.S0 (LT.run rfl rfl rfl (rt_bin rfl rfl (fun w => run_eqi w _ _ _ _ _ _))) ?_ | refine RG.S0 (LT.skip rfl rfl rfl) ?_
    first | refine jS (rt_pick_true rfl rfl) ?_ | refine jS (rt_pick_false rfl rfl) ?_
    refine jm rfl ?_
    first | refine RG.S0 (LT.run rfl rfl rfl (ru_call lawake trivial)) ?_ | refine RG.S0 (LT.skip rfl rfl rfl) ?_
    first | refine jS (rt_pick_true rfl rfl) ?_ | refine jS (rt_pick_false rfl rfl) ?_
    refine ja rfl ?_
    refine RG.nil (by kernel_rfl) ?_
    repeat (first | refine js ?_ | refine jb ?_)
    refine WpD.ret ?_
    exact ret1 rfl (.tmp rfl) (PLe.refl _)
  · rw [if_neg hodd] at hsy
    have C7 := krcmp TabE (pv n (1 - x)) (pv n x) (Sw.mono (by omega)) (Sv.mono (by omega))
    rw [hsy, cmpQ_self] at C7
    rw [hsy] at C4
    have bq : (((n % 2 : Nat) : Int) == 1) = false := by rw [beq_eq_false_iff_ne]; omega
    refine fn_of_body Tryd.func11 rfl Tryd.ntmps11 rfl ?_
    intro w0 h0
    repeat (first | refine js ?_ | refine jb ?_)
    refine jr ?_
    refine ja rfl ?_
    refine RG.nil (by kernel_rfl) ?_
    repeat (first | refine js ?_ | refine jb ?_)
    refine jr ?_
    refine jm rfl ?_
    refine jS (rt_conv_to rfl (fun w => run_convi w CInt.ok CInt.ok _ _) (vint w1)) ?_
    refine jS (rt_bin_to rfl rfl (fun w => run_remi w _ _ _ _ _ _ (by first | decide | omega | assumption)) (vint w2)) ?_
    refine ja rfl ?_
    refine RG.nil (by kernel_rfl) ?_
    repeat (first | refine js ?_ | refine jb ?_)
    refine jr ?_
    refine jm rfl ?_
    refine jS (rt_conv_to rfl (fun w => run_convi w CInt.ok CInt.ok _ _) (vint w3)) ?_
    refine jm rfl ?_
    refine jS (rt_conv_to rfl (fun w => run_convi w CInt.ok CInt.ok _ _) (vint w4)) ?_
    refine jS (rt_bin_to rfl rfl (fun w => run_addi w _ _ _ _ _ _) (vint w5)) ?_
    refine jS (ru_call C1 ⟨rfl, rfl, trivial⟩) ?_
    refine jT (ru_alloc rfl rfl rfl) ?_
    refine jO (ru_storeR rfl rfl rfl rfl rfl rfl) ?_
    refine RG.nil (by kernel_rfl) ?_
    repeat (first | refine js ?_ | refine jb ?_)
    refine jr ?_
    refine jm rfl ?_
    refine jS (ru_call C2 ⟨rfl, trivial⟩) ?_
    refine jS (ru_loadR rfl rfl rfl rfl) ?_
    refine jS (ru_call C3 ⟨rfl, rfl, trivial⟩) ?_
    refine jS (ru_call C4 ⟨rfl, rfl, trivial⟩) ?_
    refine jm rfl ?_
    refine jS (rt_extract rfl rfl) ?_
    refine jS (rt_extract rfl rfl) ?_
    refine jT (ru_alloc rfl rfl rfl) ?_
    refine jO (ru_storeR rfl rfl rfl rfl rfl rfl) ?_
    refine ja rfl ?_
    refine RG.nil (by kernel_rfl) ?_
    repeat (first | refine js ?_ | refine jb ?_)
    refine jr ?_
    refine jm rfl ?_
    refine jS (ru_loadR rfl rfl rfl rfl) ?_
    refine jS (ru_call C5 ⟨rfl, rfl, trivial⟩) ?_
    refine jm rfl ?_
    refine jS (rt_extract rfl rfl) ?_
    refine jS (rt_extract rfl rfl) ?_
    refine jT (ru_alloc rfl rfl rfl) ?_
    refine jO (ru_storeR rfl rfl rfl rfl rfl rfl) ?_
    refine ja rfl ?_
    refine RG.nil (by kernel_rfl) ?_
    repeat (first | refine js ?_ | refine jb ?_)
    refine jr ?_
    refine jm rfl ?_
    refine jS (rt_bin_to rfl rfl (fun w => run_remi w _ _ _ _ _ _ (by first | decide | omega | assumption)) (vint w6)) ?_
    refine jS (rt_bin_to rfl rfl (fun w => run_eqi w _ _ _ _ _ _) (vbool bq)) ?_
    refine RG.nil (by kernel_rfl) ?_
    repeat (first | refine js ?_ | refine jb ?_)
    refine WpD.condF rfl ?_
    repeat (first | refine js ?_ | refine jb ?_)
    refine WpD.skip ?_
    repeat (first | refine js ?_ | refine jb ?_)
    repeat (first | refine js ?_ | refine jb ?_)
    refine jr ?_
    refine jm rfl ?_
    refine jS (rt_bin rfl rfl (fun w => run_eqi w _ _ _ _ _ _)) ?_
    refine jm rfl ?_
    first | refine RG.S0 (LT.run rfl rfl rfl (rt_move rfl)) ?_ | refine RG.S0 (LT.skip rfl rfl rfl) ?_
    first | refine RG.S0 (LT.run rfl rfl rfl (rt_bin rfl rfl (fun w => run_eqi w _ _ _ _ _ _))) ?_ | refine RG.S0 (LT.skip rfl rfl rfl) ?_
    first | refine jS (rt_pick_true rfl rfl) ?_ | refine jS (rt_pick_false rfl rfl) ?_
    refine jm rfl ?_
    first | refine RG.S0 (LT.run rfl rfl rfl (ru_loadR rfl rfl rfl rfl)) ?_ | refine RG.S0 (LT.skip rfl rfl rfl) ?_
    first | refine RG.S0 (LT.run rfl rfl rfl (ru_loadR rfl rfl rfl rfl)) ?_ | refine RG.S0 (LT.skip rfl rfl rfl) ?_
    first | refine RG.S0 (LT.run rfl rfl rfl (ru_call C7 ⟨rfl, rfl, trivial⟩)) ?_ | refine RG.S0 (LT.skip rfl rfl rfl) ?_
    first | refine RG.S0 (LT.run rfl rfl rfl (rt_bin rfl rfl (fun w => run_eqi w _ _ _ _ _ _))) ?_ | refine RG.S0 (LT.skip rfl rfl rfl) ?_
    first | refine jS (rt_pick_true rfl rfl) ?_ | refine jS (rt_pick_false rfl rfl) ?_
    refine jm rfl ?_
    first | refine RG.S0 (LT.run rfl rfl rfl (ru_call lawake trivial)) ?_ | refine RG.S0 (LT.skip rfl rfl rfl) ?_
    first | refine jS (rt_pick_true rfl rfl) ?_ | refine jS (rt_pick_false rfl rfl) ?_
    refine ja rfl ?_
    refine RG.nil (by kernel_rfl) ?_
    repeat (first | refine js ?_ | refine jb ?_)
    refine WpD.ret ?_
    exact ret1 rfl (.tmp rfl) (PLe.refl _)
theorem law_BernoulliSums (k n : Int) (w : World) (wk : (Lit.int .u8 k).wf = true) (wn : (Lit.int .u8 n).wf = true) (ht : Tab w) :
    Calls Tryd.prog 10 #[.int .u8 k, .int .u8 n] w fun e w' => e = .returned (.bool true) ∧ Below w.heap.size w w' := by
  obtain ⟨k1, k2⟩ := bounds_u8 wk
  obtain ⟨n1, n2⟩ := bounds_u8 wn
  exact fn_true (lsums k n (by omega) (by omega) (by omega) (by omega)) w ht ⟨rfl, rfl, trivial⟩
theorem law_BernoulliSymmetry (k a b : Int) (w : World) (wk : (Lit.int .u8 k).wf = true) (wa : (Lit.int .i16 a).wf = true) (wb : (Lit.int .u8 b).wf = true) (ht : Tab w) :
    Calls Tryd.prog 11 #[.int .u8 k, .int .i16 a, .int .u8 b] w fun e w' => e = .returned (.bool true) ∧ Below w.heap.size w w' := by
  obtain ⟨k1, k2⟩ := bounds_u8 wk
  obtain ⟨a1, a2⟩ := bounds_i16 wa
  obtain ⟨b1, b2⟩ := bounds_u8 wb
  exact fn_true (lsymm k a b (by omega) (by omega) (by omega) (by omega) (by omega) (by omega)) w ht ⟨rfl, rfl, rfl, trivial⟩
end Go.Proofs.YtgbiccenhionaaaDoor

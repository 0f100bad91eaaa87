/- Generalized Bernoulli numbers of the program. -/
import Derived.Test.YtgbiccenhionaaaGreatDoorBf
set_option maxRecDepth 3000
namespace Go.Proofs.YtgbiccenhionaaaGreatDoor
open Go.RowKit Limb Num
instance cbody32 : CBody Tryz.prog 32 := ⟨⟨_, Tryz.func32, rfl, by rfl⟩⟩
section
variable {P : Program} {En : Ev} {n : Nat} {sl : Sl} {bx : Bx} {dst : Option Tmp} {ty : TypeId} {pos : String} {after : Array Edge} {guard : Option (Nat × Bool)}
theorem rt_max {x y : Operand} {k : IntKind} {a b : Int} {T : TypeId} (hx : osd sl x = some (.one (ex (.int k a)))) (hy : osd sl y = some (.one (ex (.int k b)))) {m : Int} (hm : (if b > a then b else a) = m) : RT P En n ⟨dst, .call ⟨.builtin .max, #[x, y], #[T, T]⟩, ty, pos, after, guard⟩ sl bx ⟨.one (ex (.int k m)), [], []⟩ :=
  RT.pure fun ρ h β bx' H => by
    subst hm
    have h1 : ρ x = .int k a := (H x (by simp [Op.operands, Call.operands]) _ hx).1
    have h2 : ρ y = .int k b := (H y (by simp [Op.operands, Call.operands]) _ hy).1
    refine ⟨_, fun w _ => ?_, rfl, trivial⟩
    simp [execOp, resolve, invoke, builtin, Builtin.max_, Builtin.max2, h1, h2]
end
theorem szq_pow {b : Nat} {r : Rat} (h : Sz b r) (n : Nat) : Sz (n * b + 1) (r ^ n) := by
  refine ⟨by rw [Rat.num_pow]; exact zl_pow_le h.1, ?_⟩
  have := zl_pow_le (n := n) h.2
  rw [Rat.den_pow]
  exact_mod_cast this
def gsc (f i : Nat) : Rat := if i = 0 then (((f : Int) : Rat)⁻¹) ^ 1 else ((f : Int) : Rat) ^ (i - 1)
def gterm (k : Nat) (d : Int) (f i : Nat) : Rat := (((bin k i : Int) : Rat) * bern i * ((psS d f (k - i) : Int) : Rat)) * gsc f i
def gsum (k : Nat) (d : Int) (f : Nat) : Nat → Rat
  | 0 => 0
  | i + 1 => gsum k d f i + gterm k d f i
theorem psS_zl {d : Int} {f j : Nat} (hf : f ≤ 40000) (hj : j ≤ 20) : zl (psS d f j) ≤ 11 := by
  have a1 := acc_le 1 d (j := j) (m := f) (F := 40000) hf
  have a2 := acc_le (-1) d (j := j) (m := f) (F := 40000) hf
  have b3 : f * 40000 ^ j ≤ 40000 * 40000 ^ j := Nat.mul_le_mul_right _ hf
  have b4 : 40000 * 40000 ^ j ≤ 40000 ^ 21 := by rw [← Nat.pow_succ']; exact Nat.pow_le_pow_right (by omega) (by omega)
  refine digs_length_le ?_
  have := big11
  unfold psS
  omega
theorem gsc_sz {f i : Nat} (hf : f ≤ 40000) (hi : i ≤ 20) : Sz 41 (gsc f i) := by
  have h := sz_z (z := (f : Int)) (by omega) (by omega)
  unfold gsc
  split
  · exact (szq_pow (szq_inv h (by omega)) 1).mono (by omega)
  · exact (szq_pow h (i - 1)).mono (by omega)
theorem gterm_sz {k : Nat} {d : Int} {f i : Nat} (hk : k ≤ 20) (hf : f ≤ 40000) (hi : i ≤ k) : Sz 56 (gterm k d f i) := by
  have hb := bin_le ⟨k, by omega⟩ ⟨i, by omega⟩
  dsimp only at hb
  exact (szq_mul (szq_mul (szq_mul (sz_z (by omega) (by omega)) (bern_sz (by omega))) (szq_int (psS_zl hf (by omega)) (by omega))) (gsc_sz hf (by omega))).mono (by omega)
theorem gsum_sz {k : Nat} {d : Int} {f : Nat} (hk : k ≤ 20) (hf : f ≤ 40000) : ∀ {i : Nat}, i ≤ k + 1 → Sz (i * 57 + 1) (gsum k d f i)
  | 0, _ => ⟨show zl (0 : Rat).num ≤ 1 by decide, show zl (((0 : Rat).den : Nat) : Int) ≤ 1 by decide⟩
  | i + 1, h => (szq_add (gsum_sz hk hf (i := i) (by omega)) (gterm_sz hk hf (by omega))).mono (by omega)
set_option maxHeartbeats 1000000 in
theorem bgen (k : Nat) (d : Int) (hk1 : 1 ≤ k) (hk : k ≤ 20) (hd : fund d = true) : Fn Tryz.prog TabE 32 [ex (.int .i64 (k : Int)), ex (.int .i64 d)] (tupP [qC (gsum k d d.natAbs (k + 1)), ex (.int .i64 0)]) := by
  obtain ⟨d1, d2, d3, _⟩ := fund_bd hd
  have F1 := bfund d
  rw [hd] at F1
  generalize hf : d.natAbs = f
  have hf1 : f ≤ 40000 := by omega
  have hf0 : 0 < f := by omega
  have eneg : IntKind.i64.wrap (-d) = -d := w64 (by omega) (by omega)
  have emax : (if -d > d then -d else d) = (f : Int) := by split <;> omega
  have P1 := bpowerSums TabE k d f hk d1 d2 hf1 (krZ_three d)
  have W0 := bwhole TabE 0 (by omega) (by omega)
  have N1 := bnumbers TabE k hk
  have W2 := bwhole TabE (f : Int) (by omega) (by omega)
  have hfz := sz_z (z := (f : Int)) (by omega) (by omega)
  have hfne : ((f : Int) : Rat) ≠ 0 := by intro h; have := Rat.intCast_eq_zero_iff.1 h; omega
  refine fn_of_body Tryz.func32 rfl Tryz.ntmps32 rfl ?_
  intro w0 h0
  repeat (first | refine js ?_ | refine jb ?_)
  refine jr ?_
  refine jT (ru_alloc rfl rfl rfl) ?_
  refine ja rfl ?_
  refine RG.nil (by kernel_rfl) ?_
  have b1 : decide ((k : Int) < 1) = false := decide_eq_false (by omega)
  have b2 : decide ((k : Int) > 20) = false := decide_eq_false (by omega)
  repeat (first | refine js ?_ | refine jb ?_)
  refine jr ?_
  refine jm rfl ?_
  refine jS (rt_bin_to rfl rfl (fun w => run_lti w _ _ _ _ _ _) (vbool b1)) ?_
  refine jm rfl ?_
  first | refine RG.S0 (LT.run rfl rfl rfl (rt_move rfl)) ?_ | refine RG.S0 (LT.skip rfl rfl rfl) ?_
  first | refine RG.S0 (LT.run rfl rfl rfl (rt_bin_to rfl rfl (fun w => run_gti w _ _ _ _ _ _) (vbool b2))) ?_ | refine RG.S0 (LT.skip rfl rfl rfl) ?_
  first | refine jS (rt_pick_true rfl rfl) ?_ | refine jS (rt_pick_false rfl rfl) ?_
  refine jm rfl ?_
  first | refine RG.S0 (LT.run rfl rfl rfl (rt_move rfl)) ?_ | refine RG.S0 (LT.skip rfl rfl rfl) ?_
  first | refine RG.S0 (LT.run rfl rfl rfl (ru_call F1 ⟨rfl, trivial⟩)) ?_ | refine RG.S0 (LT.skip rfl rfl rfl) ?_
  first | refine RG.S0 (LT.run rfl rfl rfl (rt_un rfl (fun w => run_not w _))) ?_ | refine RG.S0 (LT.skip rfl rfl rfl) ?_
  first | refine jS (rt_pick_true rfl rfl) ?_ | refine jS (rt_pick_false rfl rfl) ?_
  refine RG.nil (by kernel_rfl) ?_
  repeat (first | refine js ?_ | refine jb ?_)
  refine WpD.condF rfl ?_
  repeat (first | refine js ?_ | refine jb ?_)
  refine WpD.skip ?_
  repeat (first | refine js ?_ | refine jb ?_)
  refine jr ?_
  refine jm rfl ?_
  refine jm rfl ?_
  refine jS (rt_un_to rfl (fun w => run_negi w _ _) (vint eneg)) ?_
  refine jS (rt_max rfl rfl emax) ?_
  refine ja rfl ?_
  refine RG.nil (by kernel_rfl) ?_
  repeat (first | refine js ?_ | refine jb ?_)
  refine jr ?_
  refine jm rfl ?_
  refine jm rfl ?_
  refine jm rfl ?_
  refine jS (ru_call P1 ⟨rfl, rfl, rfl, trivial⟩) ?_
  refine ja rfl ?_
  refine RG.nil (by kernel_rfl) ?_
  repeat (first | refine js ?_ | refine jb ?_)
  refine jr ?_
  refine jS (ru_call W0 ⟨rfl, trivial⟩) ?_
  refine jT (ru_alloc rfl rfl rfl) ?_
  refine jO (ru_storeR rfl rfl rfl rfl rfl rfl) ?_
  refine RG.nil (by kernel_rfl) ?_
  repeat (first | refine js ?_ | refine jb ?_)
  refine jr ?_
  refine jm rfl ?_
  refine jS (ru_call N1 ⟨rfl, trivial⟩) ?_
  refine jS (ru_len rfl CSlice.ok) ?_
  refine jm rfl ?_
  refine RG.nil (by kernel_rfl) ?_
  repeat (first | refine js ?_ | refine jb ?_)
  refine WpD.loop (α := {i : Nat // i ≤ k + 1}) (fun i => ⟨[(0, .one (ex (.int .i64 (k : Int)))), (4, .ptr 4 0), (6, .one (ex (.int .i64 (f : Int)))), (7, .one (slc 2 (rows (fun j => zCells (psS d f j)) (k + 1)) (k + 1))), (8, .ptr 8 0), (36, .one (slc 4 (rows bcells (k + 1)) (k + 1))), (37, .one (ex (.int .i64 ((k + 1 : Nat) : Int)))), (38, .one (ex (.int .i64 (i.1 : Int))))], [(4, [ex (.bool false), ex (.slice none 0 0), ex (.bool false), ex (.slice none 0 0)]), (8, qCells (gsum k d f i.1))]⟩) (fun i => k + 1 - i.1) ⟨0, Nat.zero_le _⟩ ?_ ?_
  · refine Sub.mk ?_ ?_
    · repeat (first | exact trivial | refine jv rfl ?_ | refine jw rfl (js0 rfl) ?_ | refine jw rfl ⟨js0 rfl, js0 rfl⟩ ?_ | refine jx rfl ⟨js0 rfl, js0 rfl⟩ ?_ | refine jw rfl (clo_live (js0 rfl) (js0 rfl)) ?_ | refine ⟨⟨_, rfl, PLe.refl _⟩, trivial, ?_⟩)
    · repeat (first | exact trivial | refine jz ?_ | refine jy rfl ?_)
  rintro ⟨i, hi⟩
  dsimp only at hi ⊢
  by_cases hlt : i < k + 1
  · have hb := bin_le ⟨k, by omega⟩ ⟨i, by omega⟩
    dsimp only at hb
    have hq : ((rows bcells (k + 1)).drop (i * 4)).take 4 = qCells (bern i) := rows_get bcells_len hlt
    have hki : k - i < k + 1 := by omega
    have hq2 : ((rows (fun j => zCells (psS d f j)) (k + 1)).drop ((k - i) * 2)).take 2 = zCells (psS d f (k - i)) := rows_get (f := fun j => zCells (psS d f j)) (fun _ => rfl) hki
    have e6 : IntKind.i64.wrap ((i : Int) + 1) = ((i + 1 : Nat) : Int) := by rw [w64 (by omega) (by omega)]; rfl
    have e7 : IntKind.i64.wrap ((k : Int) - (i : Int)) = ((k - i : Nat) : Int) := by rw [w64 (by omega) (by omega)]; omega
    have S1 := bern_sz (i := i) (by omega)
    have S3 := sz_z (z := (bin k i : Int)) (by omega) (by omega)
    have S4 := szq_int (psS_zl (d := d) (j := k - i) hf1 (by omega)) (by omega)
    have S5 := gsc_sz (i := i) hf1 (by omega)
    have S6 := gsum_sz (d := d) hk hf1 hi
    have C1 := bbinomial TabE k i (by omega) (by omega)
    have C2 := bwhole TabE (bin k i : Int) (by omega) (by omega)
    have C3 := krmul TabE ((bin k i : Int) : Rat) (bern i) (S3.mono (by omega)) (S1.mono (by omega))
    have C4 := kwhole TabE (psS d f (k - i)) (Nat.le_trans (psS_zl hf1 (by omega)) (by omega))
    have C5 := krmul TabE (((bin k i : Int) : Rat) * bern i) ((psS d f (k - i) : Int) : Rat) ((szq_mul S3 S1).mono (by omega)) (S4.mono (by omega))
    have C6 := krmul TabE (((bin k i : Int) : Rat) * bern i * ((psS d f (k - i) : Int) : Rat)) (gsc f i) ((szq_mul (szq_mul S3 S1) S4).mono (by omega)) (S5.mono (by omega))
    have C7 := kradd TabE (gsum k d f i) (gterm k d f i) (S6.mono (by omega)) ((gterm_sz hk hf1 (by omega)).mono (by omega))
    by_cases hi0 : i = 0
    · subst hi0
      have e5 : IntKind.i64.wrap (((0 : Nat) : Int) - 1) = -((1 : Nat) : Int) := by decide
      have C8 := krpow_neg TabE ((f : Int) : Rat) 1 (hfz.mono (by omega)) (by omega) (by omega) hfne
      rw [show (((f : Int) : Rat)⁻¹) ^ 1 = gsc f 0 from rfl] at C8
      repeat (first | refine js ?_ | refine jb ?_)
      refine jr ?_
      refine jS (rt_bin_to rfl rfl (fun w => run_lti w _ _ _ _ _ _) (vbool (decide_eq_true (by omega)))) ?_
      refine RG.nil (by kernel_rfl) ?_
      repeat (first | refine js ?_ | refine jb ?_)
      refine WpD.condT rfl ?_
      repeat (first | refine js ?_ | refine jb ?_)
      refine WpD.skip ?_
      repeat (first | refine js ?_ | refine jb ?_)
      refine jr ?_
      refine jm rfl ?_
      refine jS (rc_indexS rfl rfl hlt hq) ?_
      refine jS (rc_loadR rfl rfl rfl) ?_
      refine jT (ru_alloc rfl rfl rfl) ?_
      refine ja rfl ?_
      refine jO (ru_storeR rfl rfl rfl rfl rfl rfl) ?_
      refine RG.nil (by kernel_rfl) ?_
      repeat (first | refine js ?_ | refine jb ?_)
      refine jr ?_
      refine jm rfl ?_
      refine jS (ru_call W2 ⟨rfl, trivial⟩) ?_
      refine jm rfl ?_
      refine jS (rt_bin_to rfl rfl (fun w => run_subi w _ _ _ _ _ _) (vint e5)) ?_
      refine jS (ru_call C8 ⟨rfl, rfl, trivial⟩) ?_
      refine jm rfl ?_
      refine jS (rt_extract rfl rfl) ?_
      refine jS (rt_extract rfl rfl) ?_
      refine jT (ru_alloc rfl rfl rfl) ?_
      refine jO (ru_storeR rfl rfl rfl rfl rfl rfl) ?_
      refine ja rfl ?_
      refine RG.nil (by kernel_rfl) ?_
      repeat (first | refine js ?_ | refine jb ?_)
      refine jr ?_
      refine jm rfl ?_
      refine jm rfl ?_
      refine jS (ru_call C1 ⟨rfl, rfl, trivial⟩) ?_
      refine jS (ru_call C2 ⟨rfl, trivial⟩) ?_
      refine jS (ru_loadR rfl rfl rfl rfl) ?_
      refine jS (ru_call C3 ⟨rfl, rfl, trivial⟩) ?_
      refine jm rfl ?_
      refine jm rfl ?_
      refine jm rfl ?_
      refine jS (rt_bin_to rfl rfl (fun w => run_subi w _ _ _ _ _ _) (vint e7)) ?_
      refine jS (rc_indexS rfl rfl hki hq2) ?_
      refine jS (rc_loadR rfl rfl rfl) ?_
      refine jS (ru_call C4 ⟨rfl, trivial⟩) ?_
      refine jS (ru_call C5 ⟨rfl, rfl, trivial⟩) ?_
      refine jT (ru_alloc rfl rfl rfl) ?_
      refine jO (ru_storeR rfl rfl rfl rfl rfl rfl) ?_
      refine RG.nil (by kernel_rfl) ?_
      repeat (first | refine js ?_ | refine jb ?_)
      refine jr ?_
      refine jS (ru_loadR rfl rfl rfl rfl) ?_
      refine jS (ru_loadR rfl rfl rfl rfl) ?_
      refine jS (ru_loadR rfl rfl rfl rfl) ?_
      refine jS (ru_call C6 ⟨rfl, rfl, trivial⟩) ?_
      refine jS (ru_call C7 ⟨rfl, rfl, trivial⟩) ?_
      refine jO (ru_storeR rfl rfl rfl rfl rfl rfl) ?_
      refine RG.nil (by kernel_rfl) ?_
      repeat (first | refine js ?_ | refine jb ?_)
      refine jr ?_
      refine jS (rt_bin_to rfl rfl (fun w => run_addi w _ _ _ _ _ _) (vint e6)) ?_
      refine jm rfl ?_
      refine RG.nil (by kernel_rfl) ?_
      refine ⟨⟨0 + 1, by omega⟩, ?_, by dsimp only; omega⟩
      refine Sub.mk ?_ ?_
      · repeat (first | exact trivial | refine jv rfl ?_ | refine jw rfl (js0 rfl) ?_ | refine jw rfl ⟨js0 rfl, js0 rfl⟩ ?_ | refine jx rfl ⟨js0 rfl, js0 rfl⟩ ?_ | refine jw rfl (clo_live (js0 rfl) (js0 rfl)) ?_ | refine ⟨⟨_, rfl, PLe.refl _⟩, trivial, ?_⟩)
      · repeat (first | exact trivial | refine jz ?_ | refine jy rfl ?_)
    · have e5 : IntKind.i64.wrap ((i : Int) - 1) = ((i - 1 : Nat) : Int) := by rw [w64 (by omega) (by omega)]; omega
      have C8 := krpow TabE ((f : Int) : Rat) (i - 1) (hfz.mono (by omega)) (by omega)
      rw [show ((f : Int) : Rat) ^ (i - 1) = gsc f i by unfold gsc; rw [if_neg hi0]] at C8
      repeat (first | refine js ?_ | refine jb ?_)
      refine jr ?_
      refine jS (rt_bin_to rfl rfl (fun w => run_lti w _ _ _ _ _ _) (vbool (decide_eq_true (by omega)))) ?_
      refine RG.nil (by kernel_rfl) ?_
      repeat (first | refine js ?_ | refine jb ?_)
      refine WpD.condT rfl ?_
      repeat (first | refine js ?_ | refine jb ?_)
      refine WpD.skip ?_
      repeat (first | refine js ?_ | refine jb ?_)
      refine jr ?_
      refine jm rfl ?_
      refine jS (rc_indexS rfl rfl hlt hq) ?_
      refine jS (rc_loadR rfl rfl rfl) ?_
      refine jT (ru_alloc rfl rfl rfl) ?_
      refine ja rfl ?_
      refine jO (ru_storeR rfl rfl rfl rfl rfl rfl) ?_
      refine RG.nil (by kernel_rfl) ?_
      repeat (first | refine js ?_ | refine jb ?_)
      refine jr ?_
      refine jm rfl ?_
      refine jS (ru_call W2 ⟨rfl, trivial⟩) ?_
      refine jm rfl ?_
      refine jS (rt_bin_to rfl rfl (fun w => run_subi w _ _ _ _ _ _) (vint e5)) ?_
      refine jS (ru_call C8 ⟨rfl, rfl, trivial⟩) ?_
      refine jm rfl ?_
      refine jS (rt_extract rfl rfl) ?_
      refine jS (rt_extract rfl rfl) ?_
      refine jT (ru_alloc rfl rfl rfl) ?_
      refine jO (ru_storeR rfl rfl rfl rfl rfl rfl) ?_
      refine ja rfl ?_
      refine RG.nil (by kernel_rfl) ?_
      repeat (first | refine js ?_ | refine jb ?_)
      refine jr ?_
      refine jm rfl ?_
      refine jm rfl ?_
      refine jS (ru_call C1 ⟨rfl, rfl, trivial⟩) ?_
      refine jS (ru_call C2 ⟨rfl, trivial⟩) ?_
      refine jS (ru_loadR rfl rfl rfl rfl) ?_
      refine jS (ru_call C3 ⟨rfl, rfl, trivial⟩) ?_
      refine jm rfl ?_
      refine jm rfl ?_
      refine jm rfl ?_
      refine jS (rt_bin_to rfl rfl (fun w => run_subi w _ _ _ _ _ _) (vint e7)) ?_
      refine jS (rc_indexS rfl rfl hki hq2) ?_
      refine jS (rc_loadR rfl rfl rfl) ?_
      refine jS (ru_call C4 ⟨rfl, trivial⟩) ?_
      refine jS (ru_call C5 ⟨rfl, rfl, trivial⟩) ?_
      refine jT (ru_alloc rfl rfl rfl) ?_
      refine jO (ru_storeR rfl rfl rfl rfl rfl rfl) ?_
      refine RG.nil (by kernel_rfl) ?_
      repeat (first | refine js ?_ | refine jb ?_)
      refine jr ?_
      refine jS (ru_loadR rfl rfl rfl rfl) ?_
      refine jS (ru_loadR rfl rfl rfl rfl) ?_
      refine jS (ru_loadR rfl rfl rfl rfl) ?_
      refine jS (ru_call C6 ⟨rfl, rfl, trivial⟩) ?_
      refine jS (ru_call C7 ⟨rfl, rfl, trivial⟩) ?_
      refine jO (ru_storeR rfl rfl rfl rfl rfl rfl) ?_
      refine RG.nil (by kernel_rfl) ?_
      repeat (first | refine js ?_ | refine jb ?_)
      refine jr ?_
      refine jS (rt_bin_to rfl rfl (fun w => run_addi w _ _ _ _ _ _) (vint e6)) ?_
      refine jm rfl ?_
      refine RG.nil (by kernel_rfl) ?_
      refine ⟨⟨i + 1, by omega⟩, ?_, by dsimp only; omega⟩
      refine Sub.mk ?_ ?_
      · repeat (first | exact trivial | refine jv rfl ?_ | refine jw rfl (js0 rfl) ?_ | refine jw rfl ⟨js0 rfl, js0 rfl⟩ ?_ | refine jx rfl ⟨js0 rfl, js0 rfl⟩ ?_ | refine jw rfl (clo_live (js0 rfl) (js0 rfl)) ?_ | refine ⟨⟨_, rfl, PLe.refl _⟩, trivial, ?_⟩)
      · repeat (first | exact trivial | refine jz ?_ | refine jy rfl ?_)
  · have : i = k + 1 := by omega
    subst this
    repeat (first | refine js ?_ | refine jb ?_)
    refine jr ?_
    refine jS (rt_bin_to rfl rfl (fun w => run_lti w _ _ _ _ _ _) (vbool (decide_eq_false (by omega)))) ?_
    refine RG.nil (by kernel_rfl) ?_
    repeat (first | refine js ?_ | refine jb ?_)
    refine WpD.condF rfl ?_
    repeat (first | refine js ?_ | refine jb ?_)
    refine WpD.exit ?_
    repeat (first | refine js ?_ | refine jb ?_)
    refine jr ?_
    refine jS (ru_loadR rfl rfl rfl rfl) ?_
    refine jO (ru_storeR rfl rfl rfl rfl rfl rfl) ?_
    refine ja rfl ?_
    refine RG.nil (by kernel_rfl) ?_
    repeat (first | refine js ?_ | refine jb ?_)
    refine WpD.ret ?_
    exact ret2 rfl (.cell rfl rfl CRow.ok rfl) (.tmp rfl) (PLe.refl _)
end Go.Proofs.YtgbiccenhionaaaGreatDoor

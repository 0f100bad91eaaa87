/- The mass of a symbol; the sanity check of chapter 32. (With LT.skipU.) -/
import Derived.Test.YtpiflllcjgpkhaaGreatDoorMe
import Derived.Test.YtpiflllcjgpkhaaGreatDoorFm
set_option maxRecDepth 3000
namespace Go.Proofs.YtpiflllcjgpkhaaGreatDoor
open Go.RowKit Limb Num
instance cbody24 : CBody Tryz.prog 24 := ⟨⟨_, Tryz.func24, rfl, by rfl⟩⟩
instance cbody10 : CBody Tryz.prog 10 := ⟨⟨_, Tryz.func10, rfl, by rfl⟩⟩
/-- The product up to Exp k - 2. -/
def mpr (p : Int) (sd : Int → Nat) (ss : Int → Int) (R : Rat) : Nat → Rat
  | 0 => R
  | k + 1 => if 0 < sd ((k : Int) - 1) then mpr p sd ss R k * dia p (sd ((k : Int) - 1)) (ss ((k : Int) - 1)) else mpr p sd ss R k
theorem mpr_sz {p : Int} {sd : Int → Nat} {ss : Int → Int} {R : Rat} (h1 : 2 ≤ p) (h2 : p ≤ 9973) (hd : ∀ e, sd e ≤ 9) (hs : ∀ e, -1 ≤ ss e ∧ ss e ≤ 1) (hR : Sz 1000 R) : ∀ k, Sz (k * 200 + 1000) (mpr p sd ss R k)
  | 0 => hR.mono (by omega)
  | k + 1 => by
    rw [mpr]
    split
    · exact (szq_mul (mpr_sz h1 h2 hd hs hR k) (sz_dia h1 h2 (hs _).1 (hs _).2 (hd _))).mono (by omega)
    · exact (mpr_sz h1 h2 hd hs hR k).mono (by omega)
set_option maxHeartbeats 1000000 in
theorem mMass (En : Ev) (p : Int) (f : Nat → Co) (n : Nat) (H : OkL f n) (hp : 2 ≤ p) (hp2 : p ≤ 9973) (R : Rat) (hb : Bool) (hR : Sz 900 R)
    (hX : Fn Tryz.prog En 31 [locP p f n] (tupP [halfP R hb, ex (.int .i64 0)]))
    (hT : Fn Tryz.prog En 32 [locP p f n] (tupP [ex (.int .i64 0), ex (.int .i64 0)]))
    (sd : Int → Nat) (ss : Int → Int) (hd : ∀ e, sd e ≤ 9) (hs : ∀ e, -1 ≤ ss e ∧ ss e ≤ 1)
    (hS : ∀ e, -1 ≤ e → e ≤ 1000 → Fn Tryz.prog En 36 [locP p f n, ex (.int .i64 e)] (aggP [ex (.int .i64 (sd e : Int)), ex (.int .i64 (ss e))])) :
    Fn Tryz.prog En 15 [locP p f n] (tupP [halfP (mpr p sd ss (((2 : Int) : Rat) ^ 0 * R) ((f (n - 1)).e.toNat + 3)) hb, ex (.int .i64 0)]) := by
  have hn1 := H.n1
  have hlt : n - 1 < n := by omega
  have he0 := H.e0 _ hlt
  have he1 := H.e1 _ hlt
  have hq : ((rows (ccs f) n).drop ((n - 1) * 5)).take 5 = coc (f (n - 1)) := rows_get (ccs_len f) hlt
  have wz : IntKind.i64.wrap ((n : Int) - 1) = ((n - 1 : Nat) : Int) := by have := H.n8; rw [w64 (by omega) (by omega)]; omega
  have W2 := mwhole En 2 (by omega) (by omega)
  have S2 := sz_z (z := 2) (by omega) (by omega)
  have C1 := krpow En ((2 : Int) : Rat) 0 (S2.mono (by omega)) (by omega)
  have C2 := krmul En (((2 : Int) : Rat) ^ 0) R ((szq_pow S2 0).mono (by omega)) (hR.mono (by omega))
  have hR' : Sz 1000 (((2 : Int) : Rat) ^ 0 * R) := (szq_mul (szq_pow S2 0) hR).mono (by omega)
  generalize ((2 : Int) : Rat) ^ 0 * R = R0 at *
  obtain ⟨L, hL⟩ : ∃ L : Nat, (f (n - 1)).e = (L : Int) := ⟨(f (n - 1)).e.toNat, by omega⟩
  rw [show coc (f (n - 1)) = [ex (.int .i64 (L : Int)), ex (.int .i64 (f (n - 1)).d), ex (.int .i64 (f (n - 1)).s), ex (.bool (f (n - 1)).o), ex (.int .i64 (f (n - 1)).y)] by unfold coc; rw [hL]] at hq
  rw [hL] at he0 he1 ⊢
  rw [Int.toNat_natCast]
  unfold locP halfP at *
  refine fn_of_body Tryz.func15 rfl Tryz.ntmps15 rfl ?_
  intro w0 h0
  repeat (first | refine js ?_ | refine jb ?_)
  refine jr ?_
  refine jT (ru_boxR rfl rfl rfl) ?_
  refine jT (ru_alloc rfl rfl rfl) ?_
  refine ja rfl ?_
  refine RG.nil (by kernel_rfl) ?_
  repeat (first | refine js ?_ | refine jb ?_)
  refine jr ?_
  refine jS (ru_loadR rfl rfl rfl rfl) ?_
  refine jS (ru_call hX ⟨rfl, trivial⟩) ?_
  refine jm rfl ?_
  refine jS (rt_extract rfl rfl) ?_
  refine jS (rt_extract rfl rfl) ?_
  refine jT (ru_alloc rfl rfl rfl) ?_
  refine jO (ru_storeR rfl rfl rfl rfl rfl rfl) ?_
  refine ja rfl ?_
  refine RG.nil (by kernel_rfl) ?_
  repeat (first | refine js ?_ | refine jb ?_)
  refine jr ?_
  refine jm rfl ?_
  refine jS (rt_bin_to rfl rfl (fun w => run_nei w _ _ _ _ _ _) (vbool (bneF (by first | assumption | omega)))) ?_
  refine RG.nil (by kernel_rfl) ?_
  repeat (first | refine js ?_ | refine jb ?_)
  refine WpD.condF rfl ?_
  repeat (first | refine js ?_ | refine jb ?_)
  refine WpD.skip ?_
  repeat (first | refine js ?_ | refine jb ?_)
  refine jr ?_
  refine jS (ru_loadR rfl rfl rfl rfl) ?_
  refine jS (ru_call hT ⟨rfl, trivial⟩) ?_
  refine jm rfl ?_
  refine jS (rt_extract rfl rfl) ?_
  refine jS (rt_extract rfl rfl) ?_
  refine ja rfl ?_
  refine ja rfl ?_
  refine RG.nil (by kernel_rfl) ?_
  repeat (first | refine js ?_ | refine jb ?_)
  refine jr ?_
  refine jS (ru_call W2 ⟨rfl, trivial⟩) ?_
  refine jm rfl ?_
  refine jS (ru_call C1 ⟨rfl, rfl, trivial⟩) ?_
  refine jm rfl ?_
  refine jS (rt_extract rfl rfl) ?_
  refine jS (rt_extract rfl rfl) ?_
  refine jT (ru_alloc rfl rfl rfl) ?_
  refine jO (ru_storeR rfl rfl rfl rfl rfl rfl) ?_
  refine ja rfl ?_
  refine RG.nil (by kernel_rfl) ?_
  repeat (first | refine js ?_ | refine jb ?_)
  refine jr ?_
  refine jS (ru_loadR rfl rfl rfl rfl) ?_
  refine jS (ru_fieldAddr rfl rfl) ?_
  refine jS (ru_loadR rfl rfl rfl rfl) ?_
  refine jS (ru_call C2 ⟨rfl, rfl, trivial⟩) ?_
  refine jO (ru_storeR rfl rfl rfl rfl rfl rfl) ?_
  refine RG.nil (by kernel_rfl) ?_
  repeat (first | refine js ?_ | refine jb ?_)
  refine jr ?_
  refine jS (ru_fieldAddr rfl rfl) ?_
  refine jS (ru_load1 rfl rfl rfl) ?_
  refine jS (ru_fieldAddr rfl rfl) ?_
  refine jS (ru_load1 rfl rfl rfl) ?_
  refine jS (ru_len rfl CSlice.ok) ?_
  refine jS (rt_bin_to rfl rfl (fun w => run_subi w _ _ _ _ _ _) (vint wz)) ?_
  refine jS (rc_indexS rfl rfl hlt hq) ?_
  refine jS (rc_fieldAddr rfl rfl) ?_
  refine jS (rc_load1 rfl rfl) ?_
  refine ja rfl ?_
  refine RG.nil (by kernel_rfl) ?_
  repeat (first | refine js ?_ | refine jb ?_)
  refine jr ?_
  refine ja rfl ?_
  refine RG.nil (by kernel_rfl) ?_
  repeat (first | refine js ?_ | refine jb ?_)
  refine WpD.loop (α := {k : Nat // k ≤ L + 3}) (fun k => ⟨[(1, .ptr 1 0), (2, .ptr 2 0), (4, .ptr 4 0), (8, .ptr 8 0), (10, .one (ex (.int .i64 (L : Int)))), (11, .one (ex (.int .i64 ((k.1 : Int) - 1))))], [(1, [ex (.int .i64 p), slc 5 (rows (ccs f) n) n]), (2, [ex (.bool false), ex (.slice none 0 0), ex (.bool false), ex (.slice none 0 0), ex (.bool false)]), (4, qCells R ++ [ex (.bool hb)]), (8, qCells (mpr p sd ss R0 k.1))]⟩) (fun k => L + 3 - k.1) ⟨0, Nat.zero_le _⟩ ?_ ?_
  · refine Sub.mk ?_ ?_
    · repeat (first | exact trivial | refine jv rfl ?_ | refine jw rfl (js0 rfl) ?_ | refine jw rfl ⟨js0 rfl, js0 rfl⟩ ?_ | refine jx rfl ⟨js0 rfl, js0 rfl⟩ ?_ | refine jw rfl (clo_live (js0 rfl) (js0 rfl)) ?_ | refine ⟨⟨_, rfl, PLe.refl _⟩, trivial, ?_⟩)
    · repeat (first | exact trivial | refine jz ?_ | refine jy rfl ?_)
  rintro ⟨k, hk⟩
  dsimp only at hk ⊢
  have w1 : IntKind.i64.wrap ((L : Int) + 1) = (L : Int) + 1 := w64 (by omega) (by omega)
  by_cases hlk : k < L + 3
  · have w2 : IntKind.i64.wrap ((k : Int) - 1 + 1) = ((k + 1 : Nat) : Int) - 1 := by rw [w64 (by omega) (by omega)]; omega
    have C3 := hS ((k : Int) - 1) (by omega) (by omega)
    have Sk := mpr_sz hp hp2 hd hs hR' k
    have hd' := hd ((k : Int) - 1)
    have hs' := hs ((k : Int) - 1)
    have hm : mpr p sd ss R0 (k + 1) = if 0 < sd ((k : Int) - 1) then mpr p sd ss R0 k * dia p (sd ((k : Int) - 1)) (ss ((k : Int) - 1)) else mpr p sd ss R0 k := rfl
    generalize sd ((k : Int) - 1) = D at *
    generalize ss ((k : Int) - 1) = S at *
    by_cases h0D : 0 < D
    · rw [if_pos h0D] at hm
      have C4 := mdiagonal En p S D hp hp2 hs'.1 hs'.2 hd'
      have C5 := krmul En (mpr p sd ss R0 k) (dia p D S) (Sk.mono (by omega)) ((sz_dia hp hp2 hs'.1 hs'.2 hd').mono (by omega))
      rw [← hm] at C5
      repeat (first | refine js ?_ | refine jb ?_)
      refine jr ?_
      refine jm rfl ?_
      refine jm rfl ?_
      refine jS (rt_bin_to rfl rfl (fun w => run_addi w _ _ _ _ _ _) (vint w1)) ?_
      refine jS (rt_bin_to rfl rfl (fun w => run_lei w _ _ _ _ _ _) (vbool (decide_eq_true (by first | assumption | omega)))) ?_
      refine RG.nil (by kernel_rfl) ?_
      repeat (first | refine js ?_ | refine jb ?_)
      refine WpD.condT rfl ?_
      repeat (first | refine js ?_ | refine jb ?_)
      refine WpD.skip ?_
      repeat (first | refine js ?_ | refine jb ?_)
      refine jr ?_
      refine jS (ru_loadR rfl rfl rfl rfl) ?_
      refine jm rfl ?_
      refine jS (ru_call C3 ⟨rfl, rfl, trivial⟩) ?_
      refine jT (ru_alloc rfl rfl rfl) ?_
      refine jO (ru_storeR rfl rfl rfl rfl rfl rfl) ?_
      refine RG.nil (by kernel_rfl) ?_
      repeat (first | refine js ?_ | refine jb ?_)
      refine jr ?_
      refine jS (ru_fieldAddr rfl rfl) ?_
      refine jS (ru_load1 rfl rfl rfl) ?_
      refine jS (rt_bin_to rfl rfl (fun w => run_gti w _ _ _ _ _ _) (vbool (decide_eq_true (by first | assumption | omega)))) ?_
      refine RG.nil (by kernel_rfl) ?_
      repeat (first | refine js ?_ | refine jb ?_)
      refine WpD.condT rfl ?_
      repeat (first | refine js ?_ | refine jb ?_)
      refine jr ?_
      refine jS (ru_loadR rfl rfl rfl rfl) ?_
      refine jS (ru_fieldAddr rfl rfl) ?_
      refine jS (ru_load1 rfl rfl rfl) ?_
      refine jS (ru_loadR rfl rfl rfl rfl) ?_
      refine jS (ru_call C4 ⟨rfl, rfl, trivial⟩) ?_
      refine jS (ru_call C5 ⟨rfl, rfl, trivial⟩) ?_
      refine jO (ru_storeR rfl rfl rfl rfl rfl rfl) ?_
      refine RG.nil (by kernel_rfl) ?_
      repeat (first | refine js ?_ | refine jb ?_)
      refine jr ?_
      refine jm rfl ?_
      refine jS (rt_bin_to rfl rfl (fun w => run_addi w _ _ _ _ _ _) (vint w2)) ?_
      refine ja rfl ?_
      refine RG.nil (by kernel_rfl) ?_
      refine ⟨⟨k + 1, by omega⟩, ?_, by dsimp only; omega⟩
      refine Sub.mk ?_ ?_
      · repeat (first | exact trivial | refine jv rfl ?_ | refine jw rfl (js0 rfl) ?_ | refine jw rfl ⟨js0 rfl, js0 rfl⟩ ?_ | refine jx rfl ⟨js0 rfl, js0 rfl⟩ ?_ | refine jw rfl (clo_live (js0 rfl) (js0 rfl)) ?_ | refine ⟨⟨_, rfl, PLe.refl _⟩, trivial, ?_⟩)
      · repeat (first | exact trivial | refine jz ?_ | refine jy rfl ?_)
    · rw [if_neg h0D] at hm
      repeat (first | refine js ?_ | refine jb ?_)
      refine jr ?_
      refine jm rfl ?_
      refine jm rfl ?_
      refine jS (rt_bin_to rfl rfl (fun w => run_addi w _ _ _ _ _ _) (vint w1)) ?_
      refine jS (rt_bin_to rfl rfl (fun w => run_lei w _ _ _ _ _ _) (vbool (decide_eq_true (by first | assumption | omega)))) ?_
      refine RG.nil (by kernel_rfl) ?_
      repeat (first | refine js ?_ | refine jb ?_)
      refine WpD.condT rfl ?_
      repeat (first | refine js ?_ | refine jb ?_)
      refine WpD.skip ?_
      repeat (first | refine js ?_ | refine jb ?_)
      refine jr ?_
      refine jS (ru_loadR rfl rfl rfl rfl) ?_
      refine jm rfl ?_
      refine jS (ru_call C3 ⟨rfl, rfl, trivial⟩) ?_
      refine jT (ru_alloc rfl rfl rfl) ?_
      refine jO (ru_storeR rfl rfl rfl rfl rfl rfl) ?_
      refine RG.nil (by kernel_rfl) ?_
      repeat (first | refine js ?_ | refine jb ?_)
      refine jr ?_
      refine jS (ru_fieldAddr rfl rfl) ?_
      refine jS (ru_load1 rfl rfl rfl) ?_
      refine jS (rt_bin_to rfl rfl (fun w => run_gti w _ _ _ _ _ _) (vbool (decide_eq_false (by first | assumption | omega)))) ?_
      refine RG.nil (by kernel_rfl) ?_
      repeat (first | refine js ?_ | refine jb ?_)
      refine WpD.condF rfl ?_
      repeat (first | refine js ?_ | refine jb ?_)
      refine WpD.skip ?_
      repeat (first | refine js ?_ | refine jb ?_)
      refine jr ?_
      refine jm rfl ?_
      refine jS (rt_bin_to rfl rfl (fun w => run_addi w _ _ _ _ _ _) (vint w2)) ?_
      refine ja rfl ?_
      refine RG.nil (by kernel_rfl) ?_
      refine ⟨⟨k + 1, by omega⟩, ?_, by dsimp only; omega⟩
      dsimp only
      rw [hm]
      refine Sub.mk ?_ ?_
      · repeat (first | exact trivial | refine jv rfl ?_ | refine jw rfl (js0 rfl) ?_ | refine jw rfl ⟨js0 rfl, js0 rfl⟩ ?_ | refine jx rfl ⟨js0 rfl, js0 rfl⟩ ?_ | refine jw rfl (clo_live (js0 rfl) (js0 rfl)) ?_ | refine ⟨⟨_, rfl, PLe.refl _⟩, trivial, ?_⟩)
      · repeat (first | exact trivial | refine jz ?_ | refine jy rfl ?_)
  · have : k = L + 3 := by omega
    subst this
    repeat (first | refine js ?_ | refine jb ?_)
    refine jr ?_
    refine jm rfl ?_
    refine jm rfl ?_
    refine jS (rt_bin_to rfl rfl (fun w => run_addi w _ _ _ _ _ _) (vint w1)) ?_
    refine jS (rt_bin_to rfl rfl (fun w => run_lei w _ _ _ _ _ _) (vbool (decide_eq_false (by first | assumption | omega)))) ?_
    refine RG.nil (by kernel_rfl) ?_
    repeat (first | refine js ?_ | refine jb ?_)
    refine WpD.condF rfl ?_
    repeat (first | refine js ?_ | refine jb ?_)
    refine WpD.exit ?_
    repeat (first | refine js ?_ | refine jb ?_)
    refine jr ?_
    refine jS (ru_loadR rfl rfl rfl rfl) ?_
    refine jS (ru_fieldAddr rfl rfl) ?_
    refine jS (ru_load1 rfl rfl rfl) ?_
    refine jS (ru_build (ps := [(_, _), (_, _)]) ⟨rfl, Part.c rfl, rfl, Part.c rfl, trivial⟩ rfl) ?_
    refine jO (ru_storeR rfl rfl rfl rfl rfl rfl) ?_
    refine ja rfl ?_
    refine RG.nil (by kernel_rfl) ?_
    repeat (first | refine js ?_ | refine jb ?_)
    refine WpD.ret ?_
    exact ret2 rfl (.cell rfl rfl CRow.ok rfl) (.tmp rfl) (PLe.refl _)
end Go.Proofs.YtpiflllcjgpkhaaGreatDoor

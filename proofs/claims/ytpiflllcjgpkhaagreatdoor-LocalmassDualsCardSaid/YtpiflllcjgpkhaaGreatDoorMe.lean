/- Symbols: cross term, types, mass. (With LT.skipU.) -/
import Derived.Test.YtpiflllcjgpkhaaGreatDoorMd
set_option maxRecDepth 3000
namespace Go.Proofs.YtpiflllcjgpkhaaGreatDoor
open Go.RowKit Limb Num
/-- The exponent of the cross term: the terms of one constituent, of all. -/
def crI (f : Nat → Co) (j : Nat) : Nat → Int
  | 0 => 0
  | i + 1 => crI f j i + ((f j).e - (f i).e) * (f i).d * (f j).d
def crH (f : Nat → Co) : Nat → Int
  | 0 => 0
  | j + 1 => crH f j + crI f j j
theorem rows_take {f : Nat → List Pd} {k : Nat} (hf : ∀ i, (f i).length = k) : ∀ {n j : Nat}, j ≤ n → (rows f n).take (j * k) = rows f j
  | 0, j, h => by obtain rfl : j = 0 := (by omega); rw [Nat.zero_mul]; rfl
  | n + 1, j, h => by
    rcases Nat.lt_or_ge n j with h1 | h1
    · obtain rfl : j = n + 1 := by omega
      rw [List.take_of_length_le (by rw [rows_len hf]; exact Nat.le_refl _)]
    · rw [rows_succ, List.take_append_of_le_length (by rw [rows_len hf]; exact Nat.mul_le_mul_right _ h1), rows_take hf h1]
/-- What an accepted symbol's numbers are. -/
structure OkL (f : Nat → Co) (n : Nat) : Prop where
  n1 : 1 ≤ n
  n8 : n ≤ 8
  e0 : ∀ i, i < n → 0 ≤ (f i).e
  e1 : ∀ i, i < n → (f i).e ≤ 100
  d0 : ∀ i, i < n → 1 ≤ (f i).d
  d8 : ∀ i, i < n → (f i).d ≤ 8
  up : ∀ i j, i < j → j < n → (f i).e < (f j).e
theorem term_bd {a b c : Int} (h1 : 0 ≤ a) (h2 : a ≤ 100) (h3 : 0 ≤ b) (h4 : b ≤ 8) (h5 : 0 ≤ c) (h6 : c ≤ 8) : 0 ≤ a * b ∧ a * b ≤ 800 ∧ 0 ≤ a * b * c ∧ a * b * c ≤ 6400 := by
  have k1 : 0 ≤ a * b := Int.mul_nonneg h1 h3
  have k2 : a * b ≤ 100 * 8 := Int.mul_le_mul h2 h4 h3 (by omega)
  have k3 : 0 ≤ a * b * c := Int.mul_nonneg k1 h5
  have k4 : a * b * c ≤ 800 * 8 := Int.mul_le_mul (by omega) h6 h5 (by omega)
  omega
theorem crI_bd {f : Nat → Co} {n : Nat} (H : OkL f n) {j : Nat} (hj : j < n) : ∀ {i : Nat}, i ≤ j → 0 ≤ crI f j i ∧ crI f j i ≤ (i : Int) * 6400
  | 0, _ => by simp [crI]
  | i + 1, h => by
    have ih := crI_bd H hj (i := i) (by omega)
    have t := term_bd (a := (f j).e - (f i).e) (b := (f i).d) (c := (f j).d) (by have := H.up i j (by omega) hj; omega) (by have := H.e0 i (by omega); have := H.e1 j hj; omega)
      (by have := H.d0 i (by omega); omega) (H.d8 i (by omega)) (by have := H.d0 j hj; omega) (H.d8 j hj)
    rw [crI]
    generalize crI f j i = x at *
    omega
theorem crH_bd {f : Nat → Co} {n : Nat} (H : OkL f n) : ∀ {j : Nat}, j ≤ n → 0 ≤ crH f j ∧ crH f j ≤ (j : Int) * 51200
  | 0, _ => by simp [crH]
  | j + 1, h => by
    have ih := crH_bd H (j := j) (by omega)
    have t := crI_bd H (j := j) (i := j) (by omega) (by omega)
    have := H.n8
    rw [crH]
    generalize crH f j = x at *
    generalize crI f j j = y at *
    omega
def halfP (r : Rat) (b : Bool) : Pd := aggP (qCells r ++ [ex (.bool b)])
def halfB (h : Int) : Bool := decide (h % 2 = 1)
/-- What Cross answers. -/
def crA (p h : Int) : Pd := if h ≤ 128 then tupP [halfP (((p : Int) : Rat) ^ (h.toNat / 2)) (halfB h), ex (.int .i64 0)] else tupP [aggP [ex (.bool false), ex (.slice none 0 0), ex (.bool false), ex (.slice none 0 0), ex (.bool false)], ex (.int .i64 7)]
set_option maxHeartbeats 1000000 in
theorem mCross (En : Ev) (p : Int) (f : Nat → Co) (n : Nat) (H : OkL f n) (hp : 2 ≤ p) (hp2 : p ≤ 9973) (hA : Fn Tryz.prog En 56 [locP p f n] (ex (.bool true))) : Fn Tryz.prog En 31 [locP p f n] (crA p (crH f n)) := by
  unfold locP at hA ⊢
  have hn8 := H.n8
  refine fn_of_body Tryz.func31 rfl Tryz.ntmps31 rfl ?_
  intro w0 h0
  repeat (first | refine js ?_ | refine jb ?_)
  refine jr ?_
  refine jT (ru_boxR rfl rfl rfl) ?_
  refine jT (ru_alloc rfl rfl rfl) ?_
  refine ja rfl ?_
  refine RG.nil (by kernel_rfl) ?_
  repeat (first | refine js ?_ | refine jb ?_)
  refine jr ?_
  refine jS (ru_loadR rfl rfl rfl rfl) ?_
  refine jS (ru_call hA ⟨rfl, trivial⟩) ?_
  refine jS (rt_un rfl (fun w => run_not w _)) ?_
  refine RG.nil (by kernel_rfl) ?_
  repeat (first | refine js ?_ | refine jb ?_)
  refine WpD.condF rfl ?_
  repeat (first | refine js ?_ | refine jb ?_)
  refine WpD.skip ?_
  repeat (first | refine js ?_ | refine jb ?_)
  refine jr ?_
  refine ja rfl ?_
  refine RG.nil (by kernel_rfl) ?_
  repeat (first | refine js ?_ | refine jb ?_)
  refine jr ?_
  refine jS (ru_fieldAddr rfl rfl) ?_
  refine jS (ru_load1 rfl rfl rfl) ?_
  refine jS (ru_len rfl CSlice.ok) ?_
  refine jm rfl ?_
  refine RG.nil (by kernel_rfl) ?_
  repeat (first | refine js ?_ | refine jb ?_)
  refine WpD.loop (α := {j : Nat // j ≤ n}) (fun j => ⟨[(1, .ptr 1 0), (2, .ptr 2 0), (4, .one (ex (.int .i64 (crH f j.1)))), (16, .one (slc 5 (rows (ccs f) n) n)), (17, .one (ex (.int .i64 (n : Int)))), (18, .one (ex (.int .i64 (j.1 : Int))))], [(1, [ex (.int .i64 p), slc 5 (rows (ccs f) n) n]), (2, [ex (.bool false), ex (.slice none 0 0), ex (.bool false), ex (.slice none 0 0), ex (.bool false)])]⟩) (fun j => n - j.1) ⟨0, Nat.zero_le _⟩ ?_ ?_
  · refine Sub.mk ?_ ?_
    · repeat (first | exact trivial | refine jv rfl ?_ | refine jw rfl (js0 rfl) ?_ | refine jw rfl ⟨js0 rfl, js0 rfl⟩ ?_ | refine jx rfl ⟨js0 rfl, js0 rfl⟩ ?_ | refine jw rfl (clo_live (js0 rfl) (js0 rfl)) ?_ | refine ⟨⟨_, rfl, PLe.refl _⟩, trivial, ?_⟩)
    · repeat (first | exact trivial | refine jz ?_ | refine jy rfl ?_)
  rintro ⟨j, hj⟩
  dsimp only at hj ⊢
  obtain ⟨b1, b2⟩ := crH_bd H hj
  by_cases hlt : j < n
  · have hq : ((rows (ccs f) n).drop (j * 5)).take 5 = coc (f j) := rows_get (ccs_len f) hlt
    have w1 : IntKind.i64.wrap ((j : Int) + 1) = ((j + 1 : Nat) : Int) := by rw [w64 (by omega) (by omega)]; rfl
    have hqs : (rows (ccs f) n).take (j * 5) = rows (ccs f) j := rows_take (ccs_len f) (by omega)
    have hjn : j ≤ n := by omega
    repeat (first | refine js ?_ | refine jb ?_)
    refine jr ?_
    refine jS (rt_bin_to rfl rfl (fun w => run_lti w _ _ _ _ _ _) (vbool (decide_eq_true (by first | assumption | omega)))) ?_
    refine RG.nil (by kernel_rfl) ?_
    repeat (first | refine js ?_ | refine jb ?_)
    refine WpD.condT rfl ?_
    repeat (first | refine js ?_ | refine jb ?_)
    refine WpD.skip ?_
    repeat (first | refine js ?_ | refine jb ?_)
    refine jr ?_
    refine jm rfl ?_
    refine jS (rc_indexS rfl rfl hlt hq) ?_
    refine jS (rc_loadR rfl rfl rfl) ?_
    refine jT (ru_alloc rfl rfl rfl) ?_
    refine ja rfl ?_
    refine jO (ru_storeR rfl rfl rfl rfl rfl rfl) ?_
    refine RG.nil (by kernel_rfl) ?_
    repeat (first | refine js ?_ | refine jb ?_)
    refine jr ?_
    refine jS (ru_fieldAddr rfl rfl) ?_
    refine jS (ru_load1 rfl rfl rfl) ?_
    refine jm rfl ?_
    refine jS (rc_sliceHS rfl rfl hjn hqs) ?_
    refine jS (ru_len rfl CSlice.ok) ?_
    refine jm rfl ?_
    refine RG.nil (by kernel_rfl) ?_
    repeat (first | refine js ?_ | refine jb ?_)
    refine WpD.loop (α := {i : Nat // i ≤ j}) (fun i => ⟨[(1, .ptr 1 0), (2, .ptr 2 0), (4, .one (ex (.int .i64 (crH f j + crI f j i.1)))), (6, .ptr 6 0), (16, .one (slc 5 (rows (ccs f) n) n)), (17, .one (ex (.int .i64 (n : Int)))), (18, .one (ex (.int .i64 (j : Int)))), (26, .one (slc 5 (rows (ccs f) j) j)), (27, .one (ex (.int .i64 (j : Int)))), (28, .one (ex (.int .i64 (i.1 : Int))))], [(1, [ex (.int .i64 p), slc 5 (rows (ccs f) n) n]), (2, [ex (.bool false), ex (.slice none 0 0), ex (.bool false), ex (.slice none 0 0), ex (.bool false)]), (6, coc (f j))]⟩) (fun i => j - i.1) ⟨0, Nat.zero_le _⟩ ?_ ?_
    · dsimp only
      rw [show crH f j + crI f j 0 = crH f j from Int.add_zero _]
      refine Sub.mk ?_ ?_
      · repeat (first | exact trivial | refine jv rfl ?_ | refine jw rfl (js0 rfl) ?_ | refine jw rfl ⟨js0 rfl, js0 rfl⟩ ?_ | refine jx rfl ⟨js0 rfl, js0 rfl⟩ ?_ | refine jw rfl (clo_live (js0 rfl) (js0 rfl)) ?_ | refine ⟨⟨_, rfl, PLe.refl _⟩, trivial, ?_⟩)
      · repeat (first | exact trivial | refine jz ?_ | refine jy rfl ?_)
    rintro ⟨i, hi⟩
    dsimp only at hi ⊢
    obtain ⟨b3, b4⟩ := crI_bd H hlt hi
    by_cases hil : i < j
    · have hqi : ((rows (ccs f) j).drop (i * 5)).take 5 = coc (f i) := rows_get (ccs_len f) hil
      have w2 : IntKind.i64.wrap ((i : Int) + 1) = ((i + 1 : Nat) : Int) := by rw [w64 (by omega) (by omega)]; rfl
      have k1 : 0 ≤ (f j).e - (f i).e := by have := H.up i j hil hlt; omega
      have k2 : (f j).e - (f i).e ≤ 100 := by have := H.e0 i (by omega); have := H.e1 j hlt; omega
      have t := term_bd (a := (f j).e - (f i).e) (b := (f i).d) (c := (f j).d) k1 k2 (by have := H.d0 i (by omega); omega) (H.d8 i (by omega)) (by have := H.d0 j hlt; omega) (H.d8 j hlt)
      have a1 : IntKind.i64.wrap ((f j).e - (f i).e) = (f j).e - (f i).e := w64 (by omega) (by omega)
      have a2 : IntKind.i64.wrap (((f j).e - (f i).e) * (f i).d) = ((f j).e - (f i).e) * (f i).d := w64 (by omega) (by omega)
      have a3 : IntKind.i64.wrap (((f j).e - (f i).e) * (f i).d * (f j).d) = ((f j).e - (f i).e) * (f i).d * (f j).d := w64 (by omega) (by omega)
      have a4 : IntKind.i64.wrap (crH f j + crI f j i + ((f j).e - (f i).e) * (f i).d * (f j).d) = crH f j + crI f j (i + 1) := by
        rw [crI, ← Int.add_assoc]
        exact w64 (by omega) (by omega)
      repeat (first | refine js ?_ | refine jb ?_)
      refine jr ?_
      refine jS (rt_bin_to rfl rfl (fun w => run_lti w _ _ _ _ _ _) (vbool (decide_eq_true (by first | assumption | omega)))) ?_
      refine RG.nil (by kernel_rfl) ?_
      repeat (first | refine js ?_ | refine jb ?_)
      refine WpD.condT rfl ?_
      repeat (first | refine js ?_ | refine jb ?_)
      refine WpD.skip ?_
      repeat (first | refine js ?_ | refine jb ?_)
      refine jr ?_
      refine jS (rc_indexS rfl rfl hil hqi) ?_
      refine jS (rc_loadR rfl rfl rfl) ?_
      refine jT (ru_alloc rfl rfl rfl) ?_
      refine jO (ru_storeR rfl rfl rfl rfl rfl rfl) ?_
      refine RG.nil (by kernel_rfl) ?_
      repeat (first | refine js ?_ | refine jb ?_)
      refine jr ?_
      refine jm rfl ?_
      refine jS (ru_fieldAddr rfl rfl) ?_
      refine jS (ru_load1 rfl rfl rfl) ?_
      refine jS (ru_fieldAddr rfl rfl) ?_
      refine jS (ru_load1 rfl rfl rfl) ?_
      refine jS (rt_bin_to rfl rfl (fun w => run_subi w _ _ _ _ _ _) (vint a1)) ?_
      refine jS (ru_fieldAddr rfl rfl) ?_
      refine jS (ru_load1 rfl rfl rfl) ?_
      refine jS (rt_bin_to rfl rfl (fun w => run_muli w _ _ _ _ _ _) (vint a2)) ?_
      refine jS (ru_fieldAddr rfl rfl) ?_
      refine jS (ru_load1 rfl rfl rfl) ?_
      refine jS (rt_bin_to rfl rfl (fun w => run_muli w _ _ _ _ _ _) (vint a3)) ?_
      refine jS (rt_bin_to rfl rfl (fun w => run_addi w _ _ _ _ _ _) (vint a4)) ?_
      refine ja rfl ?_
      refine RG.nil (by kernel_rfl) ?_
      repeat (first | refine js ?_ | refine jb ?_)
      refine jr ?_
      refine jS (rt_bin_to rfl rfl (fun w => run_addi w _ _ _ _ _ _) (vint w2)) ?_
      refine jm rfl ?_
      refine RG.nil (by kernel_rfl) ?_
      refine ⟨⟨i + 1, by omega⟩, ?_, by dsimp only; omega⟩
      refine Sub.mk ?_ ?_
      · repeat (first | exact trivial | refine jv rfl ?_ | refine jw rfl (js0 rfl) ?_ | refine jw rfl ⟨js0 rfl, js0 rfl⟩ ?_ | refine jx rfl ⟨js0 rfl, js0 rfl⟩ ?_ | refine jw rfl (clo_live (js0 rfl) (js0 rfl)) ?_ | refine ⟨⟨_, rfl, PLe.refl _⟩, trivial, ?_⟩)
      · repeat (first | exact trivial | refine jz ?_ | refine jy rfl ?_)
    · have : i = j := by omega
      subst this
      repeat (first | refine js ?_ | refine jb ?_)
      refine jr ?_
      refine jS (rt_bin_to rfl rfl (fun w => run_lti w _ _ _ _ _ _) (vbool (decide_eq_false (by first | assumption | omega)))) ?_
      refine RG.nil (by kernel_rfl) ?_
      repeat (first | refine js ?_ | refine jb ?_)
      refine WpD.condF rfl ?_
      repeat (first | refine js ?_ | refine jb ?_)
      refine WpD.exit ?_
      repeat (first | refine js ?_ | refine jb ?_)
      refine jr ?_
      refine jS (rt_bin_to rfl rfl (fun w => run_addi w _ _ _ _ _ _) (vint w1)) ?_
      refine jm rfl ?_
      refine RG.nil (by kernel_rfl) ?_
      refine ⟨⟨i + 1, by omega⟩, ?_, by dsimp only; omega⟩
      dsimp only
      rw [show crH f (i + 1) = crH f i + crI f i i from rfl]
      refine Sub.mk ?_ ?_
      · repeat (first | exact trivial | refine jv rfl ?_ | refine jw rfl (js0 rfl) ?_ | refine jw rfl ⟨js0 rfl, js0 rfl⟩ ?_ | refine jx rfl ⟨js0 rfl, js0 rfl⟩ ?_ | refine jw rfl (clo_live (js0 rfl) (js0 rfl)) ?_ | refine ⟨⟨_, rfl, PLe.refl _⟩, trivial, ?_⟩)
      · repeat (first | exact trivial | refine jz ?_ | refine jy rfl ?_)
  · have : j = n := by omega
    subst this
    unfold crA
    generalize crH f j = h at *
    obtain ⟨m, rfl⟩ : ∃ m : Nat, h = (m : Int) := ⟨h.toNat, by omega⟩
    by_cases hb : (m : Int) ≤ 128
    · rw [if_pos hb, Int.toNat_natCast]
      have Sp := sz_z (z := p) (by omega) (by omega)
      have C1 := mwhole En p (by omega) (by omega)
      have C2 := krpow En ((p : Int) : Rat) (m / 2) (Sp.mono (by omega)) (by omega)
      have eb : IntKind.i64.wrap (((m : Nat) : Int).tdiv 2) = ((m / 2 : Nat) : Int) := by
        rw [show ((m : Nat) : Int).tdiv 2 = ((m / 2 : Nat) : Int) from (Int.ofNat_tdiv _ _).symm]
        exact w64 (by omega) (by omega)
      have em : (m : Int).tmod 2 = (m : Int) % 2 := Int.tmod_eq_emod_of_nonneg (by omega)
      have hh : ((m : Int) % 2 == 1) = halfB m := rfl
      repeat (first | refine js ?_ | refine jb ?_)
      refine jr ?_
      refine jS (rt_bin_to rfl rfl (fun w => run_lti w _ _ _ _ _ _) (vbool (decide_eq_false (by first | assumption | omega)))) ?_
      refine RG.nil (by kernel_rfl) ?_
      repeat (first | refine js ?_ | refine jb ?_)
      refine WpD.condF rfl ?_
      repeat (first | refine js ?_ | refine jb ?_)
      refine WpD.exit ?_
      repeat (first | refine js ?_ | refine jb ?_)
      refine jr ?_
      refine jm rfl ?_
      refine jS (rt_bin_to rfl rfl (fun w => run_gti w _ _ _ _ _ _) (vbool (decide_eq_false (by first | assumption | omega)))) ?_
      refine RG.nil (by kernel_rfl) ?_
      repeat (first | refine js ?_ | refine jb ?_)
      refine WpD.condF rfl ?_
      repeat (first | refine js ?_ | refine jb ?_)
      refine WpD.skip ?_
      repeat (first | refine js ?_ | refine jb ?_)
      refine jr ?_
      refine jS (ru_fieldAddr rfl rfl) ?_
      refine jS (ru_load1 rfl rfl rfl) ?_
      refine jS (ru_call C1 ⟨rfl, trivial⟩) ?_
      refine jm rfl ?_
      refine jS (rt_bin_to rfl rfl (fun w => run_quoi w _ _ _ _ _ _ (by first | decide | omega | assumption)) (vint eb)) ?_
      refine jS (ru_call C2 ⟨rfl, rfl, trivial⟩) ?_
      refine jm rfl ?_
      refine jS (rt_extract rfl rfl) ?_
      refine jS (rt_extract rfl rfl) ?_
      refine jT (ru_alloc rfl rfl rfl) ?_
      refine jO (ru_storeR rfl rfl rfl rfl rfl rfl) ?_
      refine ja rfl ?_
      refine RG.nil (by kernel_rfl) ?_
      repeat (first | refine js ?_ | refine jb ?_)
      refine jr ?_
      refine jS (ru_loadR rfl rfl rfl rfl) ?_
      refine jm rfl ?_
      refine jS (rt_bin_to rfl rfl (fun w => run_remi w _ _ _ _ _ _ (by first | decide | omega | assumption)) (vint em)) ?_
      refine jS (rt_bin_to rfl rfl (fun w => run_eqi w _ _ _ _ _ _) (vbool hh)) ?_
      refine jS (ru_build (ps := [(_, _), (_, _)]) ⟨rfl, Part.c rfl, rfl, Part.c rfl, trivial⟩ rfl) ?_
      refine jO (ru_storeR rfl rfl rfl rfl rfl rfl) ?_
      refine ja rfl ?_
      refine RG.nil (by kernel_rfl) ?_
      repeat (first | refine js ?_ | refine jb ?_)
      refine WpD.ret ?_
      exact ret2 rfl (.cell rfl rfl CRow.ok rfl) (.tmp rfl) (PLe.refl _)
    · rw [if_neg hb]
      repeat (first | refine js ?_ | refine jb ?_)
      refine jr ?_
      refine jS (rt_bin_to rfl rfl (fun w => run_lti w _ _ _ _ _ _) (vbool (decide_eq_false (by first | assumption | omega)))) ?_
      refine RG.nil (by kernel_rfl) ?_
      repeat (first | refine js ?_ | refine jb ?_)
      refine WpD.condF rfl ?_
      repeat (first | refine js ?_ | refine jb ?_)
      refine WpD.exit ?_
      repeat (first | refine js ?_ | refine jb ?_)
      refine jr ?_
      refine jm rfl ?_
      refine jS (rt_bin_to rfl rfl (fun w => run_gti w _ _ _ _ _ _) (vbool (decide_eq_true (by first | assumption | omega)))) ?_
      refine RG.nil (by kernel_rfl) ?_
      repeat (first | refine js ?_ | refine jb ?_)
      refine WpD.condT rfl ?_
      repeat (first | refine js ?_ | refine jb ?_)
      refine jr ?_
      refine jS (ru_build (ps := []) trivial rfl) ?_
      refine jO (ru_storeR rfl rfl rfl rfl rfl rfl) ?_
      refine ja rfl ?_
      refine RG.nil (by kernel_rfl) ?_
      repeat (first | refine js ?_ | refine jb ?_)
      refine WpD.ret ?_
      exact ret2 rfl (.cell rfl rfl CRow.ok rfl) (.tmp rfl) (PLe.refl _)
section
variable (En : Ev)
theorem mTypes1 (f : Nat → Co) (ho : (f 0).o = true) (hA : Fn Tryz.prog En 56 [locP 2 f 1] (ex (.bool true))) : Fn Tryz.prog En 32 [locP 2 f 1] (tupP [ex (.int .i64 0), ex (.int .i64 0)]) := by
  unfold locP at hA ⊢
  refine fn_of_body Tryz.func32 rfl Tryz.ntmps32 rfl ?_
  intro w0 h0
  repeat (first | refine js ?_ | refine jb ?_)
  refine jr ?_
  refine jT (ru_boxR rfl rfl rfl) ?_
  refine ja rfl ?_
  refine ja rfl ?_
  refine RG.nil (by kernel_rfl) ?_
  repeat (first | refine js ?_ | refine jb ?_)
  refine jr ?_
  refine jS (ru_loadR rfl rfl rfl rfl) ?_
  refine jS (ru_call hA ⟨rfl, trivial⟩) ?_
  refine jS (rt_un rfl (fun w => run_not w _)) ?_
  refine RG.nil (by kernel_rfl) ?_
  repeat (first | refine js ?_ | refine jb ?_)
  refine WpD.condF rfl ?_
  repeat (first | refine js ?_ | refine jb ?_)
  refine WpD.skip ?_
  repeat (first | refine js ?_ | refine jb ?_)
  refine jr ?_
  refine jS (ru_fieldAddr rfl rfl) ?_
  refine jS (ru_load1 rfl rfl rfl) ?_
  refine jS (rt_bin_to rfl rfl (fun w => run_nei w _ _ _ _ _ _) (vbool (bneF (by first | assumption | omega)))) ?_
  refine RG.nil (by kernel_rfl) ?_
  repeat (first | refine js ?_ | refine jb ?_)
  refine WpD.condF rfl ?_
  repeat (first | refine js ?_ | refine jb ?_)
  refine WpD.skip ?_
  repeat (first | refine js ?_ | refine jb ?_)
  refine jr ?_
  refine ja rfl ?_
  refine RG.nil (by kernel_rfl) ?_
  repeat (first | refine js ?_ | refine jb ?_)
  refine jr ?_
  refine jS (ru_fieldAddr rfl rfl) ?_
  refine jS (ru_load1 rfl rfl rfl) ?_
  refine jS (ru_len rfl CSlice.ok) ?_
  refine jm rfl ?_
  refine RG.nil (by kernel_rfl) ?_
  repeat (first | refine js ?_ | refine jb ?_)
  refine WpD.loop (α := {i : Nat // i ≤ 1}) (fun i => ⟨[(1, .ptr 1 0), (4, .one (ex (.int .i64 0))), (14, .one (slc 5 (rows (ccs f) 1) 1)), (15, .one (ex (.int .i64 1))), (16, .one (ex (.int .i64 (i.1 : Int))))], [(1, [ex (.int .i64 2), slc 5 (rows (ccs f) 1) 1])]⟩) (fun i => 1 - i.1) ⟨0, Nat.zero_le _⟩ ?_ ?_
  · refine Sub.mk ?_ ?_
    · repeat (first | exact trivial | refine jv rfl ?_ | refine jw rfl (js0 rfl) ?_ | refine jw rfl ⟨js0 rfl, js0 rfl⟩ ?_ | refine jx rfl ⟨js0 rfl, js0 rfl⟩ ?_ | refine jw rfl (clo_live (js0 rfl) (js0 rfl)) ?_ | refine ⟨⟨_, rfl, PLe.refl _⟩, trivial, ?_⟩)
    · repeat (first | exact trivial | refine jz ?_ | refine jy rfl ?_)
  rintro ⟨i, hi⟩
  dsimp only at hi ⊢
  by_cases hlt : i < 1
  · obtain rfl : i = 0 := by omega
    have hq : ((rows (ccs f) 1).drop (0 * 5)).take 5 = [ex (.int .i64 (f 0).e), ex (.int .i64 (f 0).d), ex (.int .i64 (f 0).s), ex (.bool true), ex (.int .i64 (f 0).y)] := by
      rw [← ho]
      exact rows_get (ccs_len f) hlt
    have w1 : IntKind.i64.wrap (((0 : Nat) : Int) + 1) = ((0 + 1 : Nat) : Int) := by decide
    repeat (first | refine js ?_ | refine jb ?_)
    refine jr ?_
    refine jS (rt_bin_to rfl rfl (fun w => run_lti w _ _ _ _ _ _) (vbool (decide_eq_true (by first | assumption | omega)))) ?_
    refine RG.nil (by kernel_rfl) ?_
    repeat (first | refine js ?_ | refine jb ?_)
    refine WpD.condT rfl ?_
    repeat (first | refine js ?_ | refine jb ?_)
    refine WpD.skip ?_
    repeat (first | refine js ?_ | refine jb ?_)
    refine jr ?_
    refine jm rfl ?_
    refine jS (rc_indexS rfl rfl hlt hq) ?_
    refine jS (rc_loadR rfl rfl rfl) ?_
    refine jT (ru_alloc rfl rfl rfl) ?_
    refine ja rfl ?_
    refine jO (ru_storeR rfl rfl rfl rfl rfl rfl) ?_
    refine RG.nil (by kernel_rfl) ?_
    repeat (first | refine js ?_ | refine jb ?_)
    refine jr ?_
    refine jS (ru_fieldAddr rfl rfl) ?_
    refine jS (ru_load1 rfl rfl rfl) ?_
    refine jS (rt_un rfl (fun w => run_not w _)) ?_
    refine ja rfl ?_
    refine RG.nil (by kernel_rfl) ?_
    repeat (first | refine js ?_ | refine jb ?_)
    refine WpD.condF rfl ?_
    repeat (first | refine js ?_ | refine jb ?_)
    refine jr ?_
    refine jm rfl ?_
    refine jS (rt_bin_to rfl rfl (fun w => run_gti w _ _ _ _ _ _) (vbool (decide_eq_false (by first | assumption | omega)))) ?_
    refine jm rfl ?_
    refine RG.S0 (LT.skip rfl rfl rfl) ?_
    refine RG.S0 (LT.skip rfl rfl rfl) ?_
    refine RG.S0 (LT.skip rfl rfl rfl) ?_
    refine RG.S0 (LT.skip rfl rfl rfl) ?_
    refine RG.S0 (LT.skip rfl rfl rfl) ?_
    refine RG.S0 (LT.skip rfl rfl rfl) ?_
    refine RG.S0 (LT.skip rfl rfl rfl) ?_
    refine jS (rt_pick_false rfl rfl) ?_
    refine jm rfl ?_
    refine RG.S0 (LT.skip rfl rfl rfl) ?_
    refine RG.S0 (LT.skip rfl rfl rfl) ?_
    refine RG.S0 (LT.skip rfl rfl rfl) ?_
    refine RG.S0 (LT.skip rfl rfl rfl) ?_
    refine RG.S0 (LT.skip rfl rfl rfl) ?_
    refine RG.S0 (LT.skip rfl rfl rfl) ?_
    refine RG.S0 (LT.skip rfl rfl rfl) ?_
    refine RG.S0 (LT.skip rfl rfl rfl) ?_
    refine RG.S0 (LT.skip rfl rfl rfl) ?_
    refine RG.S0 (LT.skip rfl rfl rfl) ?_
    refine RG.S0 (LT.skip rfl rfl rfl) ?_
    refine jS (rt_pick_false rfl rfl) ?_
    refine ja rfl ?_
    refine RG.nil (by kernel_rfl) ?_
    repeat (first | refine js ?_ | refine jb ?_)
    refine WpD.condF rfl ?_
    repeat (first | refine js ?_ | refine jb ?_)
    refine WpD.skip ?_
    repeat (first | refine js ?_ | refine jb ?_)
    refine jr ?_
    refine jS (rt_bin_to rfl rfl (fun w => run_addi w _ _ _ _ _ _) (vint w1)) ?_
    refine jm rfl ?_
    refine RG.nil (by kernel_rfl) ?_
    refine ⟨⟨0 + 1, by omega⟩, ?_, by dsimp only; omega⟩
    refine Sub.mk ?_ ?_
    · repeat (first | exact trivial | refine jv rfl ?_ | refine jw rfl (js0 rfl) ?_ | refine jw rfl ⟨js0 rfl, js0 rfl⟩ ?_ | refine jx rfl ⟨js0 rfl, js0 rfl⟩ ?_ | refine jw rfl (clo_live (js0 rfl) (js0 rfl)) ?_ | refine ⟨⟨_, rfl, PLe.refl _⟩, trivial, ?_⟩)
    · repeat (first | exact trivial | refine jz ?_ | refine jy rfl ?_)
  · obtain rfl : i = 1 := by omega
    repeat (first | refine js ?_ | refine jb ?_)
    refine jr ?_
    refine jS (rt_bin_to rfl rfl (fun w => run_lti w _ _ _ _ _ _) (vbool (decide_eq_false (by first | assumption | omega)))) ?_
    refine RG.nil (by kernel_rfl) ?_
    repeat (first | refine js ?_ | refine jb ?_)
    refine WpD.condF rfl ?_
    repeat (first | refine js ?_ | refine jb ?_)
    refine WpD.exit ?_
    repeat (first | refine js ?_ | refine jb ?_)
    refine jr ?_
    refine jm rfl ?_
    refine ja rfl ?_
    refine ja rfl ?_
    refine RG.nil (by kernel_rfl) ?_
    repeat (first | refine js ?_ | refine jb ?_)
    refine WpD.ret ?_
    exact ret2 rfl (.tmp rfl) (.tmp rfl) (PLe.refl _)
end
end Go.Proofs.YtpiflllcjgpkhaaGreatDoor

/- The diagonal factor: the program's and the reference's. -/
import Derived.Test.YtpiflllcjgpkhaaGreatDoorMp
import Derived.Test.YtpiflllcjgpkhaaGreatDoorG
import Derived.Test.YtpiflllcjgpkhaaGreatDoorMy
set_option maxRecDepth 3000
namespace Go.Proofs.YtpiflllcjgpkhaaGreatDoor
open Go.RowKit Limb Num
instance cbody34 : CBody Tryz.prog 34 := ⟨⟨_, Tryz.func34, rfl, by rfl⟩⟩
instance cbody38 : CBody Tryz.prog 38 := ⟨⟨_, Tryz.func38, rfl, by rfl⟩⟩
instance cbody18 : CBody Tryz.prog 18 := ⟨⟨_, Tryz.func18, rfl, by rfl⟩⟩
instance cbody70 : CBody Tryz.prog 70 := ⟨⟨_, Tryz.func70, rfl, by rfl⟩⟩
instance cbody44 : CBody Tryz.prog 44 := ⟨⟨_, Tryz.func44, rfl, by rfl⟩⟩
instance cbody45 : CBody Tryz.prog 45 := ⟨⟨_, Tryz.func45, rfl, by rfl⟩⟩
instance cbody27 : CBody Tryz.prog 27 := ⟨⟨_, Tryz.func27, rfl, by rfl⟩⟩
instance cbody21 : CBody Tryz.prog 21 := ⟨⟨_, Tryz.func21, rfl, by rfl⟩⟩
instance cbody12 : CBody Tryz.prog 12 := ⟨⟨_, Tryz.func12, rfl, by rfl⟩⟩
instance cbody17 : CBody Tryz.prog 17 := ⟨⟨_, Tryz.func17, rfl, by rfl⟩⟩
instance cbody26 : CBody Tryz.prog 26 := ⟨⟨_, Tryz.func26, rfl, by rfl⟩⟩
instance cbody11 : CBody Tryz.prog 11 := ⟨⟨_, Tryz.func11, rfl, by rfl⟩⟩
section
variable (En : Ev)
theorem mwhole (a : Int) (h1 : -9223372036854775808 ≤ a) (h2 : a ≤ 9223372036854775807) : Fn Tryz.prog En 34 [ex (.int .i64 a)] (qC (a : Rat)) := by
  have C1 := ksmall En a h1 h2
  have C2 := kwhole En a (Nat.le_trans (zl_small (by omega) (by omega)) (by omega))
  refine fn_of_body Tryz.func34 rfl Tryz.ntmps34 rfl ?_
  intro w0 h0
  repeat (first | refine js ?_ | refine jb ?_)
  refine jr ?_
  refine jT (ru_alloc rfl rfl rfl) ?_
  refine RG.nil (by kernel_rfl) ?_
  repeat (first | refine js ?_ | refine jb ?_)
  refine jr ?_
  refine jm rfl ?_
  refine jS (ru_call C1 ⟨rfl, trivial⟩) ?_
  refine jS (ru_call C2 ⟨rfl, trivial⟩) ?_
  refine jO (ru_storeR rfl rfl rfl rfl rfl rfl) ?_
  refine RG.nil (by kernel_rfl) ?_
  repeat (first | refine js ?_ | refine jb ?_)
  refine WpD.ret ?_
  exact ret1 rfl (.cell rfl rfl CRow.ok rfl) (PLe.refl _)
theorem mfactor (p c : Int) (e : Nat) (hp : 2 ≤ p) (hp2 : p ≤ 9973) (c1 : -1 ≤ c) (c2 : c ≤ 1) (he : 1 ≤ e) (he2 : e ≤ 10) : Fn Tryz.prog En 38 [ex (.int .i64 p), ex (.int .i64 c), ex (.int .i64 (e : Int))] (qC (fct p c e)) := by
  have hne : ((p : Int) : Rat) ≠ 0 := by intro h; have := Rat.intCast_eq_zero_iff.1 h; omega
  have Sp := sz_z (z := p) (by omega) (by omega)
  have Sc := sz_z (z := c) (by omega) (by omega)
  have S1 := sz_z (z := 1) (by omega) (by omega)
  have Si := sz_pinv hp hp2 e
  have C1 := mwhole En p (by omega) (by omega)
  have C2 := krpow_neg En ((p : Int) : Rat) e (Sp.mono (by omega)) (by omega) (by omega) hne
  have C3 := mwhole En 1 (by omega) (by omega)
  have C4 := mwhole En c (by omega) (by omega)
  have C5 := krmul En ((c : Int) : Rat) ((((p : Int) : Rat)⁻¹) ^ e) (Sc.mono (by omega)) (Si.mono (by omega))
  have C6 := krsub En ((1 : Int) : Rat) (((c : Int) : Rat) * (((p : Int) : Rat)⁻¹) ^ e) (S1.mono (by omega)) ((szq_mul Sc Si).mono (by omega))
  rw [show ((1 : Int) : Rat) - ((c : Int) : Rat) * (((p : Int) : Rat)⁻¹) ^ e = fct p c e from rfl] at C6
  have en : IntKind.i64.wrap (-(e : Int)) = -(e : Int) := w64 (by omega) (by omega)
  refine fn_of_body Tryz.func38 rfl Tryz.ntmps38 rfl ?_
  intro w0 h0
  repeat (first | refine js ?_ | refine jb ?_)
  refine jr ?_
  refine jT (ru_alloc rfl rfl rfl) ?_
  refine RG.nil (by kernel_rfl) ?_
  repeat (first | refine js ?_ | refine jb ?_)
  refine jr ?_
  refine jm rfl ?_
  refine jS (ru_call C1 ⟨rfl, trivial⟩) ?_
  refine jm rfl ?_
  refine jS (rt_un_to rfl (fun w => run_negi w _ _) (vint en)) ?_
  refine jS (ru_call C2 ⟨rfl, rfl, trivial⟩) ?_
  refine jm rfl ?_
  refine jS (rt_extract rfl rfl) ?_
  refine jS (rt_extract rfl rfl) ?_
  refine jT (ru_alloc rfl rfl rfl) ?_
  refine jO (ru_storeR rfl rfl rfl rfl rfl rfl) ?_
  refine ja rfl ?_
  refine RG.nil (by kernel_rfl) ?_
  repeat (first | refine js ?_ | refine jb ?_)
  refine jr ?_
  refine jS (ru_call C3 ⟨rfl, trivial⟩) ?_
  refine jm rfl ?_
  refine jS (ru_call C4 ⟨rfl, trivial⟩) ?_
  refine jS (ru_loadR rfl rfl rfl rfl) ?_
  refine jS (ru_call C5 ⟨rfl, rfl, trivial⟩) ?_
  refine jS (ru_call C6 ⟨rfl, rfl, trivial⟩) ?_
  refine jO (ru_storeR rfl rfl rfl rfl rfl rfl) ?_
  refine RG.nil (by kernel_rfl) ?_
  repeat (first | refine js ?_ | refine jb ?_)
  refine WpD.ret ?_
  exact ret1 rfl (.cell rfl rfl CRow.ok rfl) (PLe.refl _)
theorem dvs_succ (p : Int) (k : Nat) : dvs p (k + 1) = dvs p k * fct p 1 (2 * (k + 1)) := rfl
set_option maxHeartbeats 1000000 in
theorem mdiagonal (p c : Int) (n : Nat) (hp : 2 ≤ p) (hp2 : p ≤ 9973) (c1 : -1 ≤ c) (c2 : c ≤ 1) (hn : n ≤ 9) : Fn Tryz.prog En 18 [ex (.int .i64 p), aggP [ex (.int .i64 (n : Int)), ex (.int .i64 c)]] (qC (dia p n c)) := by
  have W1 := mwhole En 1 (by omega) (by omega)
  have W2 := mwhole En 2 (by omega) (by omega)
  by_cases hn0 : n = 0
  · subst hn0
    unfold dia
    rw [if_pos rfl]
    refine fn_of_body Tryz.func18 rfl Tryz.ntmps18 rfl ?_
    intro w0 h0
    repeat (first | refine js ?_ | refine jb ?_)
    refine jr ?_
    refine jT (ru_boxR rfl rfl rfl) ?_
    refine jT (ru_alloc rfl rfl rfl) ?_
    refine RG.nil (by kernel_rfl) ?_
    repeat (first | refine js ?_ | refine jb ?_)
    refine jr ?_
    refine jS (ru_fieldAddr rfl rfl) ?_
    refine jS (ru_load1 rfl rfl rfl) ?_
    refine jS (rt_bin_to rfl rfl (fun w => run_eqi w _ _ _ _ _ _) (vbool (beqT (by first | assumption | omega)))) ?_
    refine RG.nil (by kernel_rfl) ?_
    repeat (first | refine js ?_ | refine jb ?_)
    refine WpD.condT rfl ?_
    repeat (first | refine js ?_ | refine jb ?_)
    refine jr ?_
    refine jS (ru_call W1 ⟨rfl, trivial⟩) ?_
    refine jO (ru_storeR rfl rfl rfl rfl rfl rfl) ?_
    refine RG.nil (by kernel_rfl) ?_
    repeat (first | refine js ?_ | refine jb ?_)
    refine WpD.ret ?_
    exact ret1 rfl (.cell rfl rfl CRow.ok rfl) (PLe.refl _)
  obtain ⟨m, hm⟩ : ∃ m, (n + 1) / 2 = m + 1 := ⟨(n + 1) / 2 - 1, by omega⟩
  have ea : IntKind.i64.wrap ((n : Int) + 1) = ((n + 1 : Nat) : Int) := by rw [w64 (by omega) (by omega)]; rfl
  have eb : IntKind.i64.wrap (((n + 1 : Nat) : Int).tdiv 2) = ((m + 1 : Nat) : Int) := by
    rw [show ((n + 1 : Nat) : Int).tdiv 2 = (((n + 1) / 2 : Nat) : Int) from (Int.ofNat_tdiv _ _).symm, hm]
    exact w64 (by omega) (by omega)
  have em : ((n : Nat) : Int).tmod 2 = ((n % 2 : Nat) : Int) := (Int.ofNat_tmod _ _).symm
  have S1 := sz_z (z := 1) (by omega) (by omega)
  have Sd := sz_dvs hp hp2 (k := m) (by omega)
  refine fn_of_body Tryz.func18 rfl Tryz.ntmps18 rfl ?_
  intro w0 h0
  repeat (first | refine js ?_ | refine jb ?_)
  refine jr ?_
  refine jT (ru_boxR rfl rfl rfl) ?_
  refine jT (ru_alloc rfl rfl rfl) ?_
  refine RG.nil (by kernel_rfl) ?_
  repeat (first | refine js ?_ | refine jb ?_)
  refine jr ?_
  refine jS (ru_fieldAddr rfl rfl) ?_
  refine jS (ru_load1 rfl rfl rfl) ?_
  refine jS (rt_bin_to rfl rfl (fun w => run_eqi w _ _ _ _ _ _) (vbool (beqF (by first | assumption | omega)))) ?_
  refine RG.nil (by kernel_rfl) ?_
  repeat (first | refine js ?_ | refine jb ?_)
  refine WpD.condF rfl ?_
  repeat (first | refine js ?_ | refine jb ?_)
  refine WpD.skip ?_
  repeat (first | refine js ?_ | refine jb ?_)
  refine jr ?_
  refine jS (ru_fieldAddr rfl rfl) ?_
  refine jS (ru_load1 rfl rfl rfl) ?_
  refine jS (rt_bin_to rfl rfl (fun w => run_addi w _ _ _ _ _ _) (vint ea)) ?_
  refine jS (rt_bin_to rfl rfl (fun w => run_quoi w _ _ _ _ _ _ (by first | decide | omega | assumption)) (vint eb)) ?_
  refine ja rfl ?_
  refine RG.nil (by kernel_rfl) ?_
  repeat (first | refine js ?_ | refine jb ?_)
  refine jr ?_
  refine jS (ru_call W2 ⟨rfl, trivial⟩) ?_
  refine jT (ru_alloc rfl rfl rfl) ?_
  refine jO (ru_storeR rfl rfl rfl rfl rfl rfl) ?_
  refine RG.nil (by kernel_rfl) ?_
  repeat (first | refine js ?_ | refine jb ?_)
  refine jr ?_
  refine ja rfl ?_
  refine RG.nil (by kernel_rfl) ?_
  repeat (first | refine js ?_ | refine jb ?_)
  refine WpD.loop (α := {k : Nat // k ≤ m}) (fun k => ⟨[(0, .one (ex (.int .i64 p))), (3, .ptr 3 0), (4, .ptr 4 0), (5, .one (ex (.int .i64 ((m + 1 : Nat) : Int)))), (6, .ptr 6 0), (7, .one (ex (.int .i64 ((k.1 + 1 : Nat) : Int))))], [(3, [ex (.int .i64 (n : Int)), ex (.int .i64 c)]), (4, [ex (.bool false), ex (.slice none 0 0), ex (.bool false), ex (.slice none 0 0)]), (6, qCells (dvs p k.1))]⟩) (fun k => m - k.1) ⟨0, Nat.zero_le _⟩ ?_ ?_
  · refine Sub.mk ?_ ?_
    · repeat (first | exact trivial | refine jv rfl ?_ | refine jw rfl (js0 rfl) ?_ | refine jw rfl ⟨js0 rfl, js0 rfl⟩ ?_ | refine jx rfl ⟨js0 rfl, js0 rfl⟩ ?_ | refine jw rfl (clo_live (js0 rfl) (js0 rfl)) ?_ | refine ⟨⟨_, rfl, PLe.refl _⟩, trivial, ?_⟩)
    · repeat (first | exact trivial | refine jz ?_ | refine jy rfl ?_)
  rintro ⟨k, hk⟩
  dsimp only at hk ⊢
  by_cases hlt : k < m
  · have C1 := mfactor En p 1 (2 * (k + 1)) hp hp2 (by omega) (by omega) (by omega) (by omega)
    have Sk := sz_dvs hp hp2 (k := k) (by omega)
    have C2 := krmul En (dvs p k) (fct p 1 (2 * (k + 1))) (Sk.mono (by omega)) ((sz_fct hp hp2 (c := 1) (by omega) (by omega) (by omega)).mono (by omega))
    rw [← dvs_succ] at C2
    have e1 : IntKind.i64.wrap (2 * ((k + 1 : Nat) : Int)) = ((2 * (k + 1) : Nat) : Int) := by rw [w64 (by omega) (by omega)]; omega
    have e2 : IntKind.i64.wrap (((k + 1 : Nat) : Int) + 1) = ((k + 1 + 1 : Nat) : Int) := by rw [w64 (by omega) (by omega)]; omega
    repeat (first | refine js ?_ | refine jb ?_)
    refine jr ?_
    refine jm rfl ?_
    refine jm rfl ?_
    refine jS (rt_bin_to rfl rfl (fun w => run_lti w _ _ _ _ _ _) (vbool (decide_eq_true (by first | assumption | omega)))) ?_
    refine RG.nil (by kernel_rfl) ?_
    repeat (first | refine js ?_ | refine jb ?_)
    refine WpD.condT rfl ?_
    repeat (first | refine js ?_ | refine jb ?_)
    refine WpD.skip ?_
    repeat (first | refine js ?_ | refine jb ?_)
    refine jr ?_
    refine jS (ru_loadR rfl rfl rfl rfl) ?_
    refine jm rfl ?_
    refine jm rfl ?_
    refine jS (rt_bin_to rfl rfl (fun w => run_muli w _ _ _ _ _ _) (vint e1)) ?_
    refine jS (ru_call C1 ⟨rfl, rfl, rfl, trivial⟩) ?_
    refine jS (ru_call C2 ⟨rfl, rfl, trivial⟩) ?_
    refine jO (ru_storeR rfl rfl rfl rfl rfl rfl) ?_
    refine RG.nil (by kernel_rfl) ?_
    repeat (first | refine js ?_ | refine jb ?_)
    refine jr ?_
    refine jm rfl ?_
    refine jS (rt_bin_to rfl rfl (fun w => run_addi w _ _ _ _ _ _) (vint e2)) ?_
    refine ja rfl ?_
    refine RG.nil (by kernel_rfl) ?_
    refine ⟨⟨k + 1, by omega⟩, ?_, by dsimp only; omega⟩
    refine Sub.mk ?_ ?_
    · repeat (first | exact trivial | refine jv rfl ?_ | refine jw rfl (js0 rfl) ?_ | refine jw rfl ⟨js0 rfl, js0 rfl⟩ ?_ | refine jx rfl ⟨js0 rfl, js0 rfl⟩ ?_ | refine jw rfl (clo_live (js0 rfl) (js0 rfl)) ?_ | refine ⟨⟨_, rfl, PLe.refl _⟩, trivial, ?_⟩)
    · repeat (first | exact trivial | refine jz ?_ | refine jy rfl ?_)
  · have : k = m := by omega
    subst this
    by_cases hodd : n % 2 = 1
    · have hd : dia p n c = ((1 : Int) : Rat) / dvs p k := by
        unfold dia
        rw [if_neg hn0, if_pos hodd, hm, Nat.add_sub_cancel]
      rw [hd]
      have Q1 := krquo En ((1 : Int) : Rat) (dvs p k) (S1.mono (by omega)) (Sd.mono (by omega)) (dvs_ne hp k)
      repeat (first | refine js ?_ | refine jb ?_)
      refine jr ?_
      refine jm rfl ?_
      refine jm rfl ?_
      refine jS (rt_bin_to rfl rfl (fun w => run_lti w _ _ _ _ _ _) (vbool (decide_eq_false (by first | assumption | omega)))) ?_
      refine RG.nil (by kernel_rfl) ?_
      repeat (first | refine js ?_ | refine jb ?_)
      refine WpD.condF rfl ?_
      repeat (first | refine js ?_ | refine jb ?_)
      refine WpD.exit ?_
      repeat (first | refine js ?_ | refine jb ?_)
      refine jr ?_
      refine jS (ru_fieldAddr rfl rfl) ?_
      refine jS (ru_load1 rfl rfl rfl) ?_
      refine jS (rt_bin_to rfl rfl (fun w => run_remi w _ _ _ _ _ _ (by first | decide | omega | assumption)) (vint em)) ?_
      refine jS (rt_bin_to rfl rfl (fun w => run_eqi w _ _ _ _ _ _) (vbool (beqF (by first | assumption | omega)))) ?_
      refine RG.nil (by kernel_rfl) ?_
      repeat (first | refine js ?_ | refine jb ?_)
      refine WpD.condF rfl ?_
      repeat (first | refine js ?_ | refine jb ?_)
      refine WpD.skip ?_
      repeat (first | refine js ?_ | refine jb ?_)
      refine jr ?_
      refine jS (ru_call W1 ⟨rfl, trivial⟩) ?_
      refine jS (ru_loadR rfl rfl rfl rfl) ?_
      refine jS (ru_call Q1 ⟨rfl, rfl, trivial⟩) ?_
      refine jm rfl ?_
      refine jS (rt_extract rfl rfl) ?_
      refine jS (rt_extract rfl rfl) ?_
      refine jT (ru_alloc rfl rfl rfl) ?_
      refine jO (ru_storeR rfl rfl rfl rfl rfl rfl) ?_
      refine ja rfl ?_
      refine RG.nil (by kernel_rfl) ?_
      repeat (first | refine js ?_ | refine jb ?_)
      refine jr ?_
      refine jS (ru_loadR rfl rfl rfl rfl) ?_
      refine jO (ru_storeR rfl rfl rfl rfl rfl rfl) ?_
      refine RG.nil (by kernel_rfl) ?_
      repeat (first | refine js ?_ | refine jb ?_)
      refine WpD.ret ?_
      exact ret1 rfl (.cell rfl rfl CRow.ok rfl) (PLe.refl _)
    · have hd : dia p n c = ((1 : Int) : Rat) / (dvs p k * fct p c (k + 1)) := by
        unfold dia
        rw [if_neg hn0, if_neg hodd, hm, Nat.add_sub_cancel]
      rw [hd]
      have hev : n % 2 = 0 := by omega
      have Sf := sz_fct hp hp2 c1 c2 (e := k + 1) (by omega)
      have C1 := mfactor En p c (k + 1) hp hp2 c1 c2 (by omega) (by omega)
      have C2 := krmul En (dvs p k) (fct p c (k + 1)) (Sd.mono (by omega)) (Sf.mono (by omega))
      have hne : dvs p k * fct p c (k + 1) ≠ 0 := fun h => (Rat.mul_eq_zero.1 h).elim (dvs_ne hp k) (fct_ne hp (by omega) c1 c2)
      have Q1 := krquo En ((1 : Int) : Rat) (dvs p k * fct p c (k + 1)) (S1.mono (by omega)) ((szq_mul Sd Sf).mono (by omega)) hne
      repeat (first | refine js ?_ | refine jb ?_)
      refine jr ?_
      refine jm rfl ?_
      refine jm rfl ?_
      refine jS (rt_bin_to rfl rfl (fun w => run_lti w _ _ _ _ _ _) (vbool (decide_eq_false (by first | assumption | omega)))) ?_
      refine RG.nil (by kernel_rfl) ?_
      repeat (first | refine js ?_ | refine jb ?_)
      refine WpD.condF rfl ?_
      repeat (first | refine js ?_ | refine jb ?_)
      refine WpD.exit ?_
      repeat (first | refine js ?_ | refine jb ?_)
      refine jr ?_
      refine jS (ru_fieldAddr rfl rfl) ?_
      refine jS (ru_load1 rfl rfl rfl) ?_
      refine jS (rt_bin_to rfl rfl (fun w => run_remi w _ _ _ _ _ _ (by first | decide | omega | assumption)) (vint em)) ?_
      refine jS (rt_bin_to rfl rfl (fun w => run_eqi w _ _ _ _ _ _) (vbool (beqT (by first | assumption | omega)))) ?_
      refine RG.nil (by kernel_rfl) ?_
      repeat (first | refine js ?_ | refine jb ?_)
      refine WpD.condT rfl ?_
      repeat (first | refine js ?_ | refine jb ?_)
      refine jr ?_
      refine jS (ru_loadR rfl rfl rfl rfl) ?_
      refine jm rfl ?_
      refine jS (ru_fieldAddr rfl rfl) ?_
      refine jS (ru_load1 rfl rfl rfl) ?_
      refine jm rfl ?_
      refine jS (ru_call C1 ⟨rfl, rfl, rfl, trivial⟩) ?_
      refine jS (ru_call C2 ⟨rfl, rfl, trivial⟩) ?_
      refine jO (ru_storeR rfl rfl rfl rfl rfl rfl) ?_
      refine RG.nil (by kernel_rfl) ?_
      repeat (first | refine js ?_ | refine jb ?_)
      refine jr ?_
      refine jS (ru_call W1 ⟨rfl, trivial⟩) ?_
      refine jS (ru_loadR rfl rfl rfl rfl) ?_
      refine jS (ru_call Q1 ⟨rfl, rfl, trivial⟩) ?_
      refine jm rfl ?_
      refine jS (rt_extract rfl rfl) ?_
      refine jS (rt_extract rfl rfl) ?_
      refine jT (ru_alloc rfl rfl rfl) ?_
      refine jO (ru_storeR rfl rfl rfl rfl rfl rfl) ?_
      refine ja rfl ?_
      refine RG.nil (by kernel_rfl) ?_
      repeat (first | refine js ?_ | refine jb ?_)
      refine jr ?_
      refine jS (ru_loadR rfl rfl rfl rfl) ?_
      refine jO (ru_storeR rfl rfl rfl rfl rfl rfl) ?_
      refine RG.nil (by kernel_rfl) ?_
      repeat (first | refine js ?_ | refine jb ?_)
      refine WpD.ret ?_
      exact ret1 rfl (.cell rfl rfl CRow.ok rfl) (PLe.refl _)
end
/-! The reference. -/
section
variable (En : Ev)
end
end Go.Proofs.YtpiflllcjgpkhaaGreatDoor

/- Symbols at odd primes: species and types. (With LT.skipU.) -/
import Derived.Test.YtpiflllcjgpkhaaGreatDoorMe
set_option maxRecDepth 3000
namespace Go.Proofs.YtpiflllcjgpkhaaGreatDoor
open Go.RowKit Limb Num
/-- The sign of a species at an odd prime. -/
def spO (p d s : Int) : Int := if d % 2 = 1 then 0 else if p % 4 = 1 ∨ d % 4 = 0 then s else -s
set_option maxHeartbeats 1000000 in
theorem mspeciesO (En : Ev) (p : Int) (f : Nat → Co) (n : Nat) (e : Int) (hp : 3 ≤ p) (hp2 : p ≤ 9973) (hn : n ≤ 1000) (he1 : -1 ≤ e) (he2 : e ≤ 1000) (hd : 0 ≤ (spC f e n).d) (hs1 : -1 ≤ (spC f e n).s) (hs2 : (spC f e n).s ≤ 1) : Fn Tryz.prog En 36 [locP p f n, ex (.int .i64 e)] (aggP [ex (.int .i64 (spC f e n).d), ex (.int .i64 (spO p (spC f e n).d (spC f e n).s))]) := by
  unfold locP
  refine fn_of_body Tryz.func36 rfl Tryz.ntmps36 rfl ?_
  intro w0 h0
  repeat (first | refine js ?_ | refine jb ?_)
  refine jr ?_
  refine jT (ru_boxR rfl rfl rfl) ?_
  refine jT (ru_alloc rfl rfl rfl) ?_
  refine RG.nil (by kernel_rfl) ?_
  repeat (first | refine js ?_ | refine jb ?_)
  refine jr ?_
  refine jm rfl ?_
  refine jS (ru_build (ps := [(_, _), (_, _)]) ⟨rfl, Part.c rfl, rfl, Part.c rfl, trivial⟩ rfl) ?_
  refine jT (ru_alloc rfl rfl rfl) ?_
  refine jO (ru_storeR rfl rfl rfl rfl rfl rfl) ?_
  refine RG.nil (by kernel_rfl) ?_
  repeat (first | refine js ?_ | refine jb ?_)
  refine jr ?_
  refine ja rfl ?_
  refine RG.nil (by kernel_rfl) ?_
  repeat (first | refine js ?_ | refine jb ?_)
  refine jr ?_
  refine jS (ru_fieldAddr rfl rfl) ?_
  refine jS (ru_load1 rfl rfl rfl) ?_
  refine jS (ru_len rfl CSlice.ok) ?_
  refine jm rfl ?_
  refine RG.nil (by kernel_rfl) ?_
  repeat (first | refine js ?_ | refine jb ?_)
  refine WpD.loop (α := {i : Nat // i ≤ n}) (fun i => ⟨[(1, .one (ex (.int .i64 e))), (2, .ptr 2 0), (4, .ptr 4 0), (5, .ptr 5 0), (6, .one (ex (.bool (spB f e i.1)))), (12, .one (slc 5 (rows (ccs f) n) n)), (13, .one (ex (.int .i64 (n : Int)))), (14, .one (ex (.int .i64 (i.1 : Int))))], [(2, [ex (.int .i64 p), slc 5 (rows (ccs f) n) n]), (4, [ex (.int .i64 0), ex (.int .i64 0)]), (5, coc (spC f e i.1))]⟩) (fun i => n - i.1) ⟨0, Nat.zero_le _⟩ ?_ ?_
  · refine Sub.mk ?_ ?_
    · repeat (first | exact trivial | refine jv rfl ?_ | refine jw rfl (js0 rfl) ?_ | refine jw rfl ⟨js0 rfl, js0 rfl⟩ ?_ | refine jx rfl ⟨js0 rfl, js0 rfl⟩ ?_ | refine jw rfl (clo_live (js0 rfl) (js0 rfl)) ?_ | refine ⟨⟨_, rfl, PLe.refl _⟩, trivial, ?_⟩)
    · repeat (first | exact trivial | refine jz ?_ | refine jy rfl ?_)
  rintro ⟨i, hi⟩
  dsimp only at hi ⊢
  by_cases hlt : i < n
  · have hq : ((rows (ccs f) n).drop (i * 5)).take 5 = coc (f i) := rows_get (ccs_len f) hlt
    have w1 : IntKind.i64.wrap ((i : Int) + 1) = ((i + 1 : Nat) : Int) := by rw [w64 (by omega) (by omega)]; rfl
    have w2 : IntKind.i64.wrap (e - 1) = e - 1 := w64 (by omega) (by omega)
    have w3 : IntKind.i64.wrap (e + 1) = e + 1 := w64 (by omega) (by omega)
    by_cases q0 : (f i).e = e
    · have c1 : spC f e (i + 1) = f i := if_pos q0
      have c2 : spB f e (i + 1) = spB f e i := if_pos q0
      repeat (first | refine js ?_ | refine jb ?_)
      refine jr ?_
      refine jS (rt_bin_to rfl rfl (fun w => run_lti w _ _ _ _ _ _) (vbool (decide_eq_true (by first | assumption | omega)))) ?_
      refine RG.nil (by kernel_rfl) ?_
      repeat (first | refine js ?_ | refine jb ?_)
      refine WpD.condT rfl ?_
      repeat (first | refine js ?_ | refine jb ?_)
      refine WpD.skip ?_
      repeat (first | refine js ?_ | refine jb ?_)
      refine jr ?_
      refine jS (rc_indexS rfl rfl hlt hq) ?_
      refine jS (rc_loadR rfl rfl rfl) ?_
      refine jT (ru_alloc rfl rfl rfl) ?_
      refine jO (ru_storeR rfl rfl rfl rfl rfl rfl) ?_
      refine RG.nil (by kernel_rfl) ?_
      repeat (first | refine js ?_ | refine jb ?_)
      refine jr ?_
      refine jS (ru_fieldAddr rfl rfl) ?_
      refine jS (ru_load1 rfl rfl rfl) ?_
      refine RG.nil (by kernel_rfl) ?_
      repeat (first | refine js ?_ | refine jb ?_)
      refine jr ?_
      refine jm rfl ?_
      refine jS (rt_bin_to rfl rfl (fun w => run_eqi w _ _ _ _ _ _) (vbool (beqT (by first | assumption | omega)))) ?_
      refine ja rfl ?_
      refine RG.nil (by kernel_rfl) ?_
      repeat (first | refine js ?_ | refine jb ?_)
      refine WpD.condT rfl ?_
      repeat (first | refine js ?_ | refine jb ?_)
      refine jr ?_
      refine jS (ru_loadR rfl rfl rfl rfl) ?_
      refine jO (ru_storeR rfl rfl rfl rfl rfl rfl) ?_
      refine RG.nil (by kernel_rfl) ?_
      repeat (first | refine js ?_ | refine jb ?_)
      refine jr ?_
      refine jS (rt_bin_to rfl rfl (fun w => run_addi w _ _ _ _ _ _) (vint w1)) ?_
      refine jm rfl ?_
      refine RG.nil (by kernel_rfl) ?_
      refine ⟨⟨i + 1, by omega⟩, ?_, by dsimp only; omega⟩
      dsimp only
      rw [c1, c2]
      refine Sub.mk ?_ ?_
      · repeat (first | exact trivial | refine jv rfl ?_ | refine jw rfl (js0 rfl) ?_ | refine jw rfl ⟨js0 rfl, js0 rfl⟩ ?_ | refine jx rfl ⟨js0 rfl, js0 rfl⟩ ?_ | refine jw rfl (clo_live (js0 rfl) (js0 rfl)) ?_ | refine ⟨⟨_, rfl, PLe.refl _⟩, trivial, ?_⟩)
      · repeat (first | exact trivial | refine jz ?_ | refine jy rfl ?_)
    · have c1 : spC f e (i + 1) = spC f e i := if_neg q0
      by_cases q1 : (f i).e = e - 1
      · have c2 : spB f e (i + 1) = (spB f e i || (f i).o) := by rw [spB, if_neg q0, if_pos (.inl q1)]
        cases hB : spB f e i with
        | true =>
          rw [hB, Bool.true_or] at c2
          repeat (first | refine js ?_ | refine jb ?_)
          refine jr ?_
          refine jS (rt_bin_to rfl rfl (fun w => run_lti w _ _ _ _ _ _) (vbool (decide_eq_true (by first | assumption | omega)))) ?_
          refine RG.nil (by kernel_rfl) ?_
          repeat (first | refine js ?_ | refine jb ?_)
          refine WpD.condT rfl ?_
          repeat (first | refine js ?_ | refine jb ?_)
          refine WpD.skip ?_
          repeat (first | refine js ?_ | refine jb ?_)
          refine jr ?_
          refine jS (rc_indexS rfl rfl hlt hq) ?_
          refine jS (rc_loadR rfl rfl rfl) ?_
          refine jT (ru_alloc rfl rfl rfl) ?_
          refine jO (ru_storeR rfl rfl rfl rfl rfl rfl) ?_
          refine RG.nil (by kernel_rfl) ?_
          repeat (first | refine js ?_ | refine jb ?_)
          refine jr ?_
          refine jS (ru_fieldAddr rfl rfl) ?_
          refine jS (ru_load1 rfl rfl rfl) ?_
          refine RG.nil (by kernel_rfl) ?_
          repeat (first | refine js ?_ | refine jb ?_)
          refine jr ?_
          refine jm rfl ?_
          refine jS (rt_bin_to rfl rfl (fun w => run_eqi w _ _ _ _ _ _) (vbool (beqF (by first | assumption | omega)))) ?_
          refine ja rfl ?_
          refine RG.nil (by kernel_rfl) ?_
          repeat (first | refine js ?_ | refine jb ?_)
          refine WpD.condF rfl ?_
          repeat (first | refine js ?_ | refine jb ?_)
          refine jr ?_
          refine jm rfl ?_
          refine jS (rt_bin_to rfl rfl (fun w => run_subi w _ _ _ _ _ _) (vint w2)) ?_
          refine jS (rt_bin_to rfl rfl (fun w => run_eqi w _ _ _ _ _ _) (vbool (beqT (by first | assumption | omega)))) ?_
          refine ja rfl ?_
          refine RG.nil (by kernel_rfl) ?_
          repeat (first | refine js ?_ | refine jb ?_)
          refine WpD.condT rfl ?_
          repeat (first | refine js ?_ | refine jb ?_)
          refine WpD.skip ?_
          repeat (first | refine js ?_ | refine jb ?_)
          refine WpD.condT rfl ?_
          repeat (first | refine js ?_ | refine jb ?_)
          refine jr ?_
          refine jm rfl ?_
          refine jm rfl ?_
          first | refine RG.S0 (LT.run rfl rfl rfl (ru_fieldAddr rfl rfl)) ?_ | refine RG.S0 (LT.skip rfl rfl rfl) ?_ | refine RG.S0 (LT.skipU rfl rfl rfl) ?_
          first | refine RG.S0 (LT.run rfl rfl rfl (ru_load1 rfl rfl rfl)) ?_ | refine RG.S0 (LT.skip rfl rfl rfl) ?_ | refine RG.S0 (LT.skipU rfl rfl rfl) ?_
          first | refine jS (rt_pick_true rfl rfl) ?_ | refine jS (rt_pick_false rfl rfl) ?_
          refine ja rfl ?_
          refine RG.nil (by kernel_rfl) ?_
          repeat (first | refine js ?_ | refine jb ?_)
          refine jr ?_
          refine jS (rt_bin_to rfl rfl (fun w => run_addi w _ _ _ _ _ _) (vint w1)) ?_
          refine jm rfl ?_
          refine RG.nil (by kernel_rfl) ?_
          refine ⟨⟨i + 1, by omega⟩, ?_, by dsimp only; omega⟩
          dsimp only
          rw [c1, c2]
          refine Sub.mk ?_ ?_
          · repeat (first | exact trivial | refine jv rfl ?_ | refine jw rfl (js0 rfl) ?_ | refine jw rfl ⟨js0 rfl, js0 rfl⟩ ?_ | refine jx rfl ⟨js0 rfl, js0 rfl⟩ ?_ | refine jw rfl (clo_live (js0 rfl) (js0 rfl)) ?_ | refine ⟨⟨_, rfl, PLe.refl _⟩, trivial, ?_⟩)
          · repeat (first | exact trivial | refine jz ?_ | refine jy rfl ?_)
        | false =>
          rw [hB, Bool.false_or] at c2
          repeat (first | refine js ?_ | refine jb ?_)
          refine jr ?_
          refine jS (rt_bin_to rfl rfl (fun w => run_lti w _ _ _ _ _ _) (vbool (decide_eq_true (by first | assumption | omega)))) ?_
          refine RG.nil (by kernel_rfl) ?_
          repeat (first | refine js ?_ | refine jb ?_)
          refine WpD.condT rfl ?_
          repeat (first | refine js ?_ | refine jb ?_)
          refine WpD.skip ?_
          repeat (first | refine js ?_ | refine jb ?_)
          refine jr ?_
          refine jS (rc_indexS rfl rfl hlt hq) ?_
          refine jS (rc_loadR rfl rfl rfl) ?_
          refine jT (ru_alloc rfl rfl rfl) ?_
          refine jO (ru_storeR rfl rfl rfl rfl rfl rfl) ?_
          refine RG.nil (by kernel_rfl) ?_
          repeat (first | refine js ?_ | refine jb ?_)
          refine jr ?_
          refine jS (ru_fieldAddr rfl rfl) ?_
          refine jS (ru_load1 rfl rfl rfl) ?_
          refine RG.nil (by kernel_rfl) ?_
          repeat (first | refine js ?_ | refine jb ?_)
          refine jr ?_
          refine jm rfl ?_
          refine jS (rt_bin_to rfl rfl (fun w => run_eqi w _ _ _ _ _ _) (vbool (beqF (by first | assumption | omega)))) ?_
          refine ja rfl ?_
          refine RG.nil (by kernel_rfl) ?_
          repeat (first | refine js ?_ | refine jb ?_)
          refine WpD.condF rfl ?_
          repeat (first | refine js ?_ | refine jb ?_)
          refine jr ?_
          refine jm rfl ?_
          refine jS (rt_bin_to rfl rfl (fun w => run_subi w _ _ _ _ _ _) (vint w2)) ?_
          refine jS (rt_bin_to rfl rfl (fun w => run_eqi w _ _ _ _ _ _) (vbool (beqT (by first | assumption | omega)))) ?_
          refine ja rfl ?_
          refine RG.nil (by kernel_rfl) ?_
          repeat (first | refine js ?_ | refine jb ?_)
          refine WpD.condT rfl ?_
          repeat (first | refine js ?_ | refine jb ?_)
          refine WpD.skip ?_
          repeat (first | refine js ?_ | refine jb ?_)
          refine WpD.condT rfl ?_
          repeat (first | refine js ?_ | refine jb ?_)
          refine jr ?_
          refine jm rfl ?_
          refine jm rfl ?_
          first | refine RG.S0 (LT.run rfl rfl rfl (ru_fieldAddr rfl rfl)) ?_ | refine RG.S0 (LT.skip rfl rfl rfl) ?_ | refine RG.S0 (LT.skipU rfl rfl rfl) ?_
          first | refine RG.S0 (LT.run rfl rfl rfl (ru_load1 rfl rfl rfl)) ?_ | refine RG.S0 (LT.skip rfl rfl rfl) ?_ | refine RG.S0 (LT.skipU rfl rfl rfl) ?_
          first | refine jS (rt_pick_true rfl rfl) ?_ | refine jS (rt_pick_false rfl rfl) ?_
          refine ja rfl ?_
          refine RG.nil (by kernel_rfl) ?_
          repeat (first | refine js ?_ | refine jb ?_)
          refine jr ?_
          refine jS (rt_bin_to rfl rfl (fun w => run_addi w _ _ _ _ _ _) (vint w1)) ?_
          refine jm rfl ?_
          refine RG.nil (by kernel_rfl) ?_
          refine ⟨⟨i + 1, by omega⟩, ?_, by dsimp only; omega⟩
          dsimp only
          rw [c1, c2]
          refine Sub.mk ?_ ?_
          · repeat (first | exact trivial | refine jv rfl ?_ | refine jw rfl (js0 rfl) ?_ | refine jw rfl ⟨js0 rfl, js0 rfl⟩ ?_ | refine jx rfl ⟨js0 rfl, js0 rfl⟩ ?_ | refine jw rfl (clo_live (js0 rfl) (js0 rfl)) ?_ | refine ⟨⟨_, rfl, PLe.refl _⟩, trivial, ?_⟩)
          · repeat (first | exact trivial | refine jz ?_ | refine jy rfl ?_)
      · by_cases q2 : (f i).e = e + 1
        · have c2 : spB f e (i + 1) = (spB f e i || (f i).o) := by rw [spB, if_neg q0, if_pos (.inr q2)]
          cases hB : spB f e i with
          | true =>
            rw [hB, Bool.true_or] at c2
            repeat (first | refine js ?_ | refine jb ?_)
            refine jr ?_
            refine jS (rt_bin_to rfl rfl (fun w => run_lti w _ _ _ _ _ _) (vbool (decide_eq_true (by first | assumption | omega)))) ?_
            refine RG.nil (by kernel_rfl) ?_
            repeat (first | refine js ?_ | refine jb ?_)
            refine WpD.condT rfl ?_
            repeat (first | refine js ?_ | refine jb ?_)
            refine WpD.skip ?_
            repeat (first | refine js ?_ | refine jb ?_)
            refine jr ?_
            refine jS (rc_indexS rfl rfl hlt hq) ?_
            refine jS (rc_loadR rfl rfl rfl) ?_
            refine jT (ru_alloc rfl rfl rfl) ?_
            refine jO (ru_storeR rfl rfl rfl rfl rfl rfl) ?_
            refine RG.nil (by kernel_rfl) ?_
            repeat (first | refine js ?_ | refine jb ?_)
            refine jr ?_
            refine jS (ru_fieldAddr rfl rfl) ?_
            refine jS (ru_load1 rfl rfl rfl) ?_
            refine RG.nil (by kernel_rfl) ?_
            repeat (first | refine js ?_ | refine jb ?_)
            refine jr ?_
            refine jm rfl ?_
            refine jS (rt_bin_to rfl rfl (fun w => run_eqi w _ _ _ _ _ _) (vbool (beqF (by first | assumption | omega)))) ?_
            refine ja rfl ?_
            refine RG.nil (by kernel_rfl) ?_
            repeat (first | refine js ?_ | refine jb ?_)
            refine WpD.condF rfl ?_
            repeat (first | refine js ?_ | refine jb ?_)
            refine jr ?_
            refine jm rfl ?_
            refine jS (rt_bin_to rfl rfl (fun w => run_subi w _ _ _ _ _ _) (vint w2)) ?_
            refine jS (rt_bin_to rfl rfl (fun w => run_eqi w _ _ _ _ _ _) (vbool (beqF (by first | assumption | omega)))) ?_
            refine ja rfl ?_
            refine RG.nil (by kernel_rfl) ?_
            repeat (first | refine js ?_ | refine jb ?_)
            refine WpD.condF rfl ?_
            repeat (first | refine js ?_ | refine jb ?_)
            refine jr ?_
            refine jm rfl ?_
            refine jS (rt_bin_to rfl rfl (fun w => run_addi w _ _ _ _ _ _) (vint w3)) ?_
            refine jS (rt_bin_to rfl rfl (fun w => run_eqi w _ _ _ _ _ _) (vbool (beqT (by first | assumption | omega)))) ?_
            refine ja rfl ?_
            refine RG.nil (by kernel_rfl) ?_
            repeat (first | refine js ?_ | refine jb ?_)
            refine WpD.condT rfl ?_
            repeat (first | refine js ?_ | refine jb ?_)
            refine jr ?_
            refine jm rfl ?_
            refine jm rfl ?_
            first | refine RG.S0 (LT.run rfl rfl rfl (ru_fieldAddr rfl rfl)) ?_ | refine RG.S0 (LT.skip rfl rfl rfl) ?_ | refine RG.S0 (LT.skipU rfl rfl rfl) ?_
            first | refine RG.S0 (LT.run rfl rfl rfl (ru_load1 rfl rfl rfl)) ?_ | refine RG.S0 (LT.skip rfl rfl rfl) ?_ | refine RG.S0 (LT.skipU rfl rfl rfl) ?_
            first | refine jS (rt_pick_true rfl rfl) ?_ | refine jS (rt_pick_false rfl rfl) ?_
            refine ja rfl ?_
            refine RG.nil (by kernel_rfl) ?_
            repeat (first | refine js ?_ | refine jb ?_)
            refine jr ?_
            refine jS (rt_bin_to rfl rfl (fun w => run_addi w _ _ _ _ _ _) (vint w1)) ?_
            refine jm rfl ?_
            refine RG.nil (by kernel_rfl) ?_
            refine ⟨⟨i + 1, by omega⟩, ?_, by dsimp only; omega⟩
            dsimp only
            rw [c1, c2]
            refine Sub.mk ?_ ?_
            · repeat (first | exact trivial | refine jv rfl ?_ | refine jw rfl (js0 rfl) ?_ | refine jw rfl ⟨js0 rfl, js0 rfl⟩ ?_ | refine jx rfl ⟨js0 rfl, js0 rfl⟩ ?_ | refine jw rfl (clo_live (js0 rfl) (js0 rfl)) ?_ | refine ⟨⟨_, rfl, PLe.refl _⟩, trivial, ?_⟩)
            · repeat (first | exact trivial | refine jz ?_ | refine jy rfl ?_)
          | false =>
            rw [hB, Bool.false_or] at c2
            repeat (first | refine js ?_ | refine jb ?_)
            refine jr ?_
            refine jS (rt_bin_to rfl rfl (fun w => run_lti w _ _ _ _ _ _) (vbool (decide_eq_true (by first | assumption | omega)))) ?_
            refine RG.nil (by kernel_rfl) ?_
            repeat (first | refine js ?_ | refine jb ?_)
            refine WpD.condT rfl ?_
            repeat (first | refine js ?_ | refine jb ?_)
            refine WpD.skip ?_
            repeat (first | refine js ?_ | refine jb ?_)
            refine jr ?_
            refine jS (rc_indexS rfl rfl hlt hq) ?_
            refine jS (rc_loadR rfl rfl rfl) ?_
            refine jT (ru_alloc rfl rfl rfl) ?_
            refine jO (ru_storeR rfl rfl rfl rfl rfl rfl) ?_
            refine RG.nil (by kernel_rfl) ?_
            repeat (first | refine js ?_ | refine jb ?_)
            refine jr ?_
            refine jS (ru_fieldAddr rfl rfl) ?_
            refine jS (ru_load1 rfl rfl rfl) ?_
            refine RG.nil (by kernel_rfl) ?_
            repeat (first | refine js ?_ | refine jb ?_)
            refine jr ?_
            refine jm rfl ?_
            refine jS (rt_bin_to rfl rfl (fun w => run_eqi w _ _ _ _ _ _) (vbool (beqF (by first | assumption | omega)))) ?_
            refine ja rfl ?_
            refine RG.nil (by kernel_rfl) ?_
            repeat (first | refine js ?_ | refine jb ?_)
            refine WpD.condF rfl ?_
            repeat (first | refine js ?_ | refine jb ?_)
            refine jr ?_
            refine jm rfl ?_
            refine jS (rt_bin_to rfl rfl (fun w => run_subi w _ _ _ _ _ _) (vint w2)) ?_
            refine jS (rt_bin_to rfl rfl (fun w => run_eqi w _ _ _ _ _ _) (vbool (beqF (by first | assumption | omega)))) ?_
            refine ja rfl ?_
            refine RG.nil (by kernel_rfl) ?_
            repeat (first | refine js ?_ | refine jb ?_)
            refine WpD.condF rfl ?_
            repeat (first | refine js ?_ | refine jb ?_)
            refine jr ?_
            refine jm rfl ?_
            refine jS (rt_bin_to rfl rfl (fun w => run_addi w _ _ _ _ _ _) (vint w3)) ?_
            refine jS (rt_bin_to rfl rfl (fun w => run_eqi w _ _ _ _ _ _) (vbool (beqT (by first | assumption | omega)))) ?_
            refine ja rfl ?_
            refine RG.nil (by kernel_rfl) ?_
            repeat (first | refine js ?_ | refine jb ?_)
            refine WpD.condT rfl ?_
            repeat (first | refine js ?_ | refine jb ?_)
            refine jr ?_
            refine jm rfl ?_
            refine jm rfl ?_
            first | refine RG.S0 (LT.run rfl rfl rfl (ru_fieldAddr rfl rfl)) ?_ | refine RG.S0 (LT.skip rfl rfl rfl) ?_ | refine RG.S0 (LT.skipU rfl rfl rfl) ?_
            first | refine RG.S0 (LT.run rfl rfl rfl (ru_load1 rfl rfl rfl)) ?_ | refine RG.S0 (LT.skip rfl rfl rfl) ?_ | refine RG.S0 (LT.skipU rfl rfl rfl) ?_
            first | refine jS (rt_pick_true rfl rfl) ?_ | refine jS (rt_pick_false rfl rfl) ?_
            refine ja rfl ?_
            refine RG.nil (by kernel_rfl) ?_
            repeat (first | refine js ?_ | refine jb ?_)
            refine jr ?_
            refine jS (rt_bin_to rfl rfl (fun w => run_addi w _ _ _ _ _ _) (vint w1)) ?_
            refine jm rfl ?_
            refine RG.nil (by kernel_rfl) ?_
            refine ⟨⟨i + 1, by omega⟩, ?_, by dsimp only; omega⟩
            dsimp only
            rw [c1, c2]
            refine Sub.mk ?_ ?_
            · repeat (first | exact trivial | refine jv rfl ?_ | refine jw rfl (js0 rfl) ?_ | refine jw rfl ⟨js0 rfl, js0 rfl⟩ ?_ | refine jx rfl ⟨js0 rfl, js0 rfl⟩ ?_ | refine jw rfl (clo_live (js0 rfl) (js0 rfl)) ?_ | refine ⟨⟨_, rfl, PLe.refl _⟩, trivial, ?_⟩)
            · repeat (first | exact trivial | refine jz ?_ | refine jy rfl ?_)
        · have c2 : spB f e (i + 1) = spB f e i := by rw [spB, if_neg q0, if_neg (by omega)]
          repeat (first | refine js ?_ | refine jb ?_)
          refine jr ?_
          refine jS (rt_bin_to rfl rfl (fun w => run_lti w _ _ _ _ _ _) (vbool (decide_eq_true (by first | assumption | omega)))) ?_
          refine RG.nil (by kernel_rfl) ?_
          repeat (first | refine js ?_ | refine jb ?_)
          refine WpD.condT rfl ?_
          repeat (first | refine js ?_ | refine jb ?_)
          refine WpD.skip ?_
          repeat (first | refine js ?_ | refine jb ?_)
          refine jr ?_
          refine jS (rc_indexS rfl rfl hlt hq) ?_
          refine jS (rc_loadR rfl rfl rfl) ?_
          refine jT (ru_alloc rfl rfl rfl) ?_
          refine jO (ru_storeR rfl rfl rfl rfl rfl rfl) ?_
          refine RG.nil (by kernel_rfl) ?_
          repeat (first | refine js ?_ | refine jb ?_)
          refine jr ?_
          refine jS (ru_fieldAddr rfl rfl) ?_
          refine jS (ru_load1 rfl rfl rfl) ?_
          refine RG.nil (by kernel_rfl) ?_
          repeat (first | refine js ?_ | refine jb ?_)
          refine jr ?_
          refine jm rfl ?_
          refine jS (rt_bin_to rfl rfl (fun w => run_eqi w _ _ _ _ _ _) (vbool (beqF (by first | assumption | omega)))) ?_
          refine ja rfl ?_
          refine RG.nil (by kernel_rfl) ?_
          repeat (first | refine js ?_ | refine jb ?_)
          refine WpD.condF rfl ?_
          repeat (first | refine js ?_ | refine jb ?_)
          refine jr ?_
          refine jm rfl ?_
          refine jS (rt_bin_to rfl rfl (fun w => run_subi w _ _ _ _ _ _) (vint w2)) ?_
          refine jS (rt_bin_to rfl rfl (fun w => run_eqi w _ _ _ _ _ _) (vbool (beqF (by first | assumption | omega)))) ?_
          refine ja rfl ?_
          refine RG.nil (by kernel_rfl) ?_
          repeat (first | refine js ?_ | refine jb ?_)
          refine WpD.condF rfl ?_
          repeat (first | refine js ?_ | refine jb ?_)
          refine jr ?_
          refine jm rfl ?_
          refine jS (rt_bin_to rfl rfl (fun w => run_addi w _ _ _ _ _ _) (vint w3)) ?_
          refine jS (rt_bin_to rfl rfl (fun w => run_eqi w _ _ _ _ _ _) (vbool (beqF (by first | assumption | omega)))) ?_
          refine ja rfl ?_
          refine RG.nil (by kernel_rfl) ?_
          repeat (first | refine js ?_ | refine jb ?_)
          refine WpD.condF rfl ?_
          repeat (first | refine js ?_ | refine jb ?_)
          refine WpD.skip ?_
          repeat (first | refine js ?_ | refine jb ?_)
          refine jr ?_
          refine jS (rt_bin_to rfl rfl (fun w => run_addi w _ _ _ _ _ _) (vint w1)) ?_
          refine jm rfl ?_
          refine RG.nil (by kernel_rfl) ?_
          refine ⟨⟨i + 1, by omega⟩, ?_, by dsimp only; omega⟩
          dsimp only
          rw [c1, c2]
          refine Sub.mk ?_ ?_
          · repeat (first | exact trivial | refine jv rfl ?_ | refine jw rfl (js0 rfl) ?_ | refine jw rfl ⟨js0 rfl, js0 rfl⟩ ?_ | refine jx rfl ⟨js0 rfl, js0 rfl⟩ ?_ | refine jw rfl (clo_live (js0 rfl) (js0 rfl)) ?_ | refine ⟨⟨_, rfl, PLe.refl _⟩, trivial, ?_⟩)
          · repeat (first | exact trivial | refine jz ?_ | refine jy rfl ?_)
  · have : i = n := by omega
    subst this
    have m1 : (spC f e i).d.tmod 2 = (spC f e i).d % 2 := Int.tmod_eq_emod_of_nonneg hd
    have m2 : (spC f e i).d.tmod 4 = (spC f e i).d % 4 := Int.tmod_eq_emod_of_nonneg hd
    have m3 : p.tmod 4 = p % 4 := Int.tmod_eq_emod_of_nonneg (by omega)
    have m4 : IntKind.i64.wrap (-(spC f e i).s) = -(spC f e i).s := w64 (by omega) (by omega)
    unfold spO
    by_cases h1 : (spC f e i).d % 2 = 1
    · rw [if_pos h1]
      repeat (first | refine js ?_ | refine jb ?_)
      refine jr ?_
      refine jS (rt_bin_to rfl rfl (fun w => run_lti w _ _ _ _ _ _) (vbool (decide_eq_false (by first | assumption | omega)))) ?_
      refine RG.nil (by kernel_rfl) ?_
      repeat (first | refine js ?_ | refine jb ?_)
      refine WpD.condF rfl ?_
      repeat (first | refine js ?_ | refine jb ?_)
      refine WpD.exit ?_
      repeat (first | refine js ?_ | refine jb ?_)
      refine jr ?_
      refine jS (ru_fieldAddr rfl rfl) ?_
      refine jS (ru_load1 rfl rfl rfl) ?_
      refine jS (rt_bin_to rfl rfl (fun w => run_eqi w _ _ _ _ _ _) (vbool (beqF (by first | assumption | omega)))) ?_
      refine RG.nil (by kernel_rfl) ?_
      repeat (first | refine js ?_ | refine jb ?_)
      refine WpD.condF rfl ?_
      repeat (first | refine js ?_ | refine jb ?_)
      refine WpD.skip ?_
      repeat (first | refine js ?_ | refine jb ?_)
      refine jr ?_
      refine jS (ru_fieldAddr rfl rfl) ?_
      refine jS (ru_load1 rfl rfl rfl) ?_
      refine jS (rt_bin_to rfl rfl (fun w => run_remi w _ _ _ _ _ _ (by first | decide | omega | assumption)) (vint m1)) ?_
      refine jS (rt_bin_to rfl rfl (fun w => run_eqi w _ _ _ _ _ _) (vbool (beqT (by first | assumption | omega)))) ?_
      refine RG.nil (by kernel_rfl) ?_
      repeat (first | refine js ?_ | refine jb ?_)
      refine WpD.condT rfl ?_
      repeat (first | refine js ?_ | refine jb ?_)
      refine jr ?_
      refine jS (ru_fieldAddr rfl rfl) ?_
      refine jS (ru_load1 rfl rfl rfl) ?_
      refine jS (ru_build (ps := [(_, _)]) ⟨rfl, Part.c rfl, trivial⟩ rfl) ?_
      refine jO (ru_storeR rfl rfl rfl rfl rfl rfl) ?_
      refine RG.nil (by kernel_rfl) ?_
      repeat (first | refine js ?_ | refine jb ?_)
      refine WpD.ret ?_
      exact ret1 rfl (.cell rfl rfl CRow.ok rfl) (PLe.refl _)
    · rw [if_neg h1]
      by_cases h2 : p % 4 = 1
      · rw [if_pos (.inl h2)]
        repeat (first | refine js ?_ | refine jb ?_)
        refine jr ?_
        refine jS (rt_bin_to rfl rfl (fun w => run_lti w _ _ _ _ _ _) (vbool (decide_eq_false (by first | assumption | omega)))) ?_
        refine RG.nil (by kernel_rfl) ?_
        repeat (first | refine js ?_ | refine jb ?_)
        refine WpD.condF rfl ?_
        repeat (first | refine js ?_ | refine jb ?_)
        refine WpD.exit ?_
        repeat (first | refine js ?_ | refine jb ?_)
        refine jr ?_
        refine jS (ru_fieldAddr rfl rfl) ?_
        refine jS (ru_load1 rfl rfl rfl) ?_
        refine jS (rt_bin_to rfl rfl (fun w => run_eqi w _ _ _ _ _ _) (vbool (beqF (by first | assumption | omega)))) ?_
        refine RG.nil (by kernel_rfl) ?_
        repeat (first | refine js ?_ | refine jb ?_)
        refine WpD.condF rfl ?_
        repeat (first | refine js ?_ | refine jb ?_)
        refine WpD.skip ?_
        repeat (first | refine js ?_ | refine jb ?_)
        refine jr ?_
        refine jS (ru_fieldAddr rfl rfl) ?_
        refine jS (ru_load1 rfl rfl rfl) ?_
        refine jS (rt_bin_to rfl rfl (fun w => run_remi w _ _ _ _ _ _ (by first | decide | omega | assumption)) (vint m1)) ?_
        refine jS (rt_bin_to rfl rfl (fun w => run_eqi w _ _ _ _ _ _) (vbool (beqF (by first | assumption | omega)))) ?_
        refine RG.nil (by kernel_rfl) ?_
        repeat (first | refine js ?_ | refine jb ?_)
        refine WpD.condF rfl ?_
        repeat (first | refine js ?_ | refine jb ?_)
        refine WpD.skip ?_
        repeat (first | refine js ?_ | refine jb ?_)
        refine jr ?_
        refine jS (ru_fieldAddr rfl rfl) ?_
        refine jS (ru_load1 rfl rfl rfl) ?_
        refine jS (rt_bin_to rfl rfl (fun w => run_remi w _ _ _ _ _ _ (by first | decide | omega | assumption)) (vint m3)) ?_
        refine jS (rt_bin_to rfl rfl (fun w => run_eqi w _ _ _ _ _ _) (vbool (beqT (by first | assumption | omega)))) ?_
        refine jm rfl ?_
        refine RG.S0 (LT.skip rfl rfl rfl) ?_
        refine RG.S0 (LT.skip rfl rfl rfl) ?_
        refine RG.S0 (LT.skip rfl rfl rfl) ?_
        refine RG.S0 (LT.skip rfl rfl rfl) ?_
        refine jS (rt_pick_true rfl rfl) ?_
        refine RG.nil (by kernel_rfl) ?_
        repeat (first | refine js ?_ | refine jb ?_)
        refine WpD.condT rfl ?_
        repeat (first | refine js ?_ | refine jb ?_)
        refine jr ?_
        refine jS (ru_fieldAddr rfl rfl) ?_
        refine jS (ru_load1 rfl rfl rfl) ?_
        refine jS (ru_fieldAddr rfl rfl) ?_
        refine jS (ru_load1 rfl rfl rfl) ?_
        refine jS (ru_build (ps := [(_, _), (_, _)]) ⟨rfl, Part.c rfl, rfl, Part.c rfl, trivial⟩ rfl) ?_
        refine jO (ru_storeR rfl rfl rfl rfl rfl rfl) ?_
        refine RG.nil (by kernel_rfl) ?_
        repeat (first | refine js ?_ | refine jb ?_)
        refine WpD.ret ?_
        exact ret1 rfl (.cell rfl rfl CRow.ok rfl) (PLe.refl _)
      · by_cases h3 : (spC f e i).d % 4 = 0
        · rw [if_pos (.inr h3)]
          repeat (first | refine js ?_ | refine jb ?_)
          refine jr ?_
          refine jS (rt_bin_to rfl rfl (fun w => run_lti w _ _ _ _ _ _) (vbool (decide_eq_false (by first | assumption | omega)))) ?_
          refine RG.nil (by kernel_rfl) ?_
          repeat (first | refine js ?_ | refine jb ?_)
          refine WpD.condF rfl ?_
          repeat (first | refine js ?_ | refine jb ?_)
          refine WpD.exit ?_
          repeat (first | refine js ?_ | refine jb ?_)
          refine jr ?_
          refine jS (ru_fieldAddr rfl rfl) ?_
          refine jS (ru_load1 rfl rfl rfl) ?_
          refine jS (rt_bin_to rfl rfl (fun w => run_eqi w _ _ _ _ _ _) (vbool (beqF (by first | assumption | omega)))) ?_
          refine RG.nil (by kernel_rfl) ?_
          repeat (first | refine js ?_ | refine jb ?_)
          refine WpD.condF rfl ?_
          repeat (first | refine js ?_ | refine jb ?_)
          refine WpD.skip ?_
          repeat (first | refine js ?_ | refine jb ?_)
          refine jr ?_
          refine jS (ru_fieldAddr rfl rfl) ?_
          refine jS (ru_load1 rfl rfl rfl) ?_
          refine jS (rt_bin_to rfl rfl (fun w => run_remi w _ _ _ _ _ _ (by first | decide | omega | assumption)) (vint m1)) ?_
          refine jS (rt_bin_to rfl rfl (fun w => run_eqi w _ _ _ _ _ _) (vbool (beqF (by first | assumption | omega)))) ?_
          refine RG.nil (by kernel_rfl) ?_
          repeat (first | refine js ?_ | refine jb ?_)
          refine WpD.condF rfl ?_
          repeat (first | refine js ?_ | refine jb ?_)
          refine WpD.skip ?_
          repeat (first | refine js ?_ | refine jb ?_)
          refine jr ?_
          refine jS (ru_fieldAddr rfl rfl) ?_
          refine jS (ru_load1 rfl rfl rfl) ?_
          refine jS (rt_bin_to rfl rfl (fun w => run_remi w _ _ _ _ _ _ (by first | decide | omega | assumption)) (vint m3)) ?_
          refine jS (rt_bin_to rfl rfl (fun w => run_eqi w _ _ _ _ _ _) (vbool (beqF (by first | assumption | omega)))) ?_
          refine jm rfl ?_
          refine RG.S0 (LT.run rfl rfl rfl (ru_fieldAddr rfl rfl)) ?_
          refine RG.S0 (LT.run rfl rfl rfl (ru_load1 rfl rfl rfl)) ?_
          refine RG.S0 (LT.run rfl rfl rfl (rt_bin_to rfl rfl (fun w => run_remi w _ _ _ _ _ _ (by first | decide | omega | assumption)) (vint m2))) ?_
          refine RG.S0 (LT.run rfl rfl rfl (rt_bin_to rfl rfl (fun w => run_eqi w _ _ _ _ _ _) (vbool (beqT (by first | assumption | omega))))) ?_
          refine jS (rt_pick_false rfl rfl) ?_
          refine RG.nil (by kernel_rfl) ?_
          repeat (first | refine js ?_ | refine jb ?_)
          refine WpD.condT rfl ?_
          repeat (first | refine js ?_ | refine jb ?_)
          refine jr ?_
          refine jS (ru_fieldAddr rfl rfl) ?_
          refine jS (ru_load1 rfl rfl rfl) ?_
          refine jS (ru_fieldAddr rfl rfl) ?_
          refine jS (ru_load1 rfl rfl rfl) ?_
          refine jS (ru_build (ps := [(_, _), (_, _)]) ⟨rfl, Part.c rfl, rfl, Part.c rfl, trivial⟩ rfl) ?_
          refine jO (ru_storeR rfl rfl rfl rfl rfl rfl) ?_
          refine RG.nil (by kernel_rfl) ?_
          repeat (first | refine js ?_ | refine jb ?_)
          refine WpD.ret ?_
          exact ret1 rfl (.cell rfl rfl CRow.ok rfl) (PLe.refl _)
        · rw [if_neg (by omega)]
          repeat (first | refine js ?_ | refine jb ?_)
          refine jr ?_
          refine jS (rt_bin_to rfl rfl (fun w => run_lti w _ _ _ _ _ _) (vbool (decide_eq_false (by first | assumption | omega)))) ?_
          refine RG.nil (by kernel_rfl) ?_
          repeat (first | refine js ?_ | refine jb ?_)
          refine WpD.condF rfl ?_
          repeat (first | refine js ?_ | refine jb ?_)
          refine WpD.exit ?_
          repeat (first | refine js ?_ | refine jb ?_)
          refine jr ?_
          refine jS (ru_fieldAddr rfl rfl) ?_
          refine jS (ru_load1 rfl rfl rfl) ?_
          refine jS (rt_bin_to rfl rfl (fun w => run_eqi w _ _ _ _ _ _) (vbool (beqF (by first | assumption | omega)))) ?_
          refine RG.nil (by kernel_rfl) ?_
          repeat (first | refine js ?_ | refine jb ?_)
          refine WpD.condF rfl ?_
          repeat (first | refine js ?_ | refine jb ?_)
          refine WpD.skip ?_
          repeat (first | refine js ?_ | refine jb ?_)
          refine jr ?_
          refine jS (ru_fieldAddr rfl rfl) ?_
          refine jS (ru_load1 rfl rfl rfl) ?_
          refine jS (rt_bin_to rfl rfl (fun w => run_remi w _ _ _ _ _ _ (by first | decide | omega | assumption)) (vint m1)) ?_
          refine jS (rt_bin_to rfl rfl (fun w => run_eqi w _ _ _ _ _ _) (vbool (beqF (by first | assumption | omega)))) ?_
          refine RG.nil (by kernel_rfl) ?_
          repeat (first | refine js ?_ | refine jb ?_)
          refine WpD.condF rfl ?_
          repeat (first | refine js ?_ | refine jb ?_)
          refine WpD.skip ?_
          repeat (first | refine js ?_ | refine jb ?_)
          refine jr ?_
          refine jS (ru_fieldAddr rfl rfl) ?_
          refine jS (ru_load1 rfl rfl rfl) ?_
          refine jS (rt_bin_to rfl rfl (fun w => run_remi w _ _ _ _ _ _ (by first | decide | omega | assumption)) (vint m3)) ?_
          refine jS (rt_bin_to rfl rfl (fun w => run_eqi w _ _ _ _ _ _) (vbool (beqF (by first | assumption | omega)))) ?_
          refine jm rfl ?_
          refine RG.S0 (LT.run rfl rfl rfl (ru_fieldAddr rfl rfl)) ?_
          refine RG.S0 (LT.run rfl rfl rfl (ru_load1 rfl rfl rfl)) ?_
          refine RG.S0 (LT.run rfl rfl rfl (rt_bin_to rfl rfl (fun w => run_remi w _ _ _ _ _ _ (by first | decide | omega | assumption)) (vint m2))) ?_
          refine RG.S0 (LT.run rfl rfl rfl (rt_bin_to rfl rfl (fun w => run_eqi w _ _ _ _ _ _) (vbool (beqF (by first | assumption | omega))))) ?_
          refine jS (rt_pick_false rfl rfl) ?_
          refine RG.nil (by kernel_rfl) ?_
          repeat (first | refine js ?_ | refine jb ?_)
          refine WpD.condF rfl ?_
          repeat (first | refine js ?_ | refine jb ?_)
          refine WpD.skip ?_
          repeat (first | refine js ?_ | refine jb ?_)
          refine jr ?_
          refine jS (ru_fieldAddr rfl rfl) ?_
          refine jS (ru_load1 rfl rfl rfl) ?_
          refine jS (ru_fieldAddr rfl rfl) ?_
          refine jS (ru_load1 rfl rfl rfl) ?_
          refine jS (rt_un_to rfl (fun w => run_negi w _ _) (vint m4)) ?_
          refine jS (ru_build (ps := [(_, _), (_, _)]) ⟨rfl, Part.c rfl, rfl, Part.c rfl, trivial⟩ rfl) ?_
          refine jO (ru_storeR rfl rfl rfl rfl rfl rfl) ?_
          refine RG.nil (by kernel_rfl) ?_
          repeat (first | refine js ?_ | refine jb ?_)
          refine WpD.ret ?_
          exact ret1 rfl (.cell rfl rfl CRow.ok rfl) (PLe.refl _)
section
variable (En : Ev)
theorem mTypesO (p : Int) (f : Nat → Co) (n : Nat) (hp : p ≠ 2) (hA : Fn Tryz.prog En 56 [locP p f n] (ex (.bool true))) : Fn Tryz.prog En 32 [locP p f n] (tupP [ex (.int .i64 0), ex (.int .i64 0)]) := by
  unfold locP at hA ⊢
  refine fn_of_body Tryz.func32 rfl Tryz.ntmps32 rfl ?_
  intro w0 h0
  repeat (first | refine js ?_ | refine jb ?_)
  refine jr ?_
  refine jT (ru_boxR rfl rfl rfl) ?_
  refine ja rfl ?_
  refine ja rfl ?_
  refine RG.nil (by kernel_rfl) ?_
  repeat (first | refine js ?_ | refine jb ?_)
  refine jr ?_
  refine jS (ru_loadR rfl rfl rfl rfl) ?_
  refine jS (ru_call hA ⟨rfl, trivial⟩) ?_
  refine jS (rt_un rfl (fun w => run_not w _)) ?_
  refine RG.nil (by kernel_rfl) ?_
  repeat (first | refine js ?_ | refine jb ?_)
  refine WpD.condF rfl ?_
  repeat (first | refine js ?_ | refine jb ?_)
  refine WpD.skip ?_
  repeat (first | refine js ?_ | refine jb ?_)
  refine jr ?_
  refine jS (ru_fieldAddr rfl rfl) ?_
  refine jS (ru_load1 rfl rfl rfl) ?_
  refine jS (rt_bin_to rfl rfl (fun w => run_nei w _ _ _ _ _ _) (vbool (bneT (by first | assumption | omega)))) ?_
  refine RG.nil (by kernel_rfl) ?_
  repeat (first | refine js ?_ | refine jb ?_)
  refine WpD.condT rfl ?_
  repeat (first | refine js ?_ | refine jb ?_)
  refine jr ?_
  refine ja rfl ?_
  refine ja rfl ?_
  refine RG.nil (by kernel_rfl) ?_
  repeat (first | refine js ?_ | refine jb ?_)
  refine WpD.ret ?_
  exact ret2 rfl (.tmp rfl) (.tmp rfl) (PLe.refl _)
end
end Go.Proofs.YtpiflllcjgpkhaaGreatDoor

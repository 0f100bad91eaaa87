/- Valuations: the laws. -/
import Derived.Test.YtnhbdldchoepfaaDoorVa
import Derived.Test.YtnhbdldchoepfaaDoorCz
set_option maxRecDepth 3000
namespace Go.Proofs.YtnhbdldchoepfaaDoor
open Go.RowKit Limb Num
theorem fn_trueW {P : Program} {En : Ev} {f : FuncId} {ps : List Pd} {vs : List Value} {h0 : GH} (h : Fn P En f ps (ex (.bool true))) (w : World) (he : En.e w) (hh : Holds h0 w) (ha : AllV h0 ps vs) : Calls P f vs.toArray w fun e w' => e = .returned (.bool true) ∧ Below w.heap.size w w' := by
  refine (h h0 w vs he hh ha).mono ?_
  rintro e w' ⟨v, h', rfl, _, _, _, hb, hv⟩
  have hv : v = .bool true := hv
  exact ⟨by rw [hv], hb⟩
theorem same0 : Fn Tryd.prog TabE 16 [zero2, zero2] (ex (.bool true)) := by
  have C1 := (fsame TabE 0 0 (by decide) (by decide)).arg (ps := [zero2, zero2]) ⟨zC_nil, zC_nil, trivial⟩
  rwa [decide_eq_true rfl] at C1
theorem lval (s : Bool) (l : List Nat) (k raw : Int) (wild : Bool) (hl : Lm l) (k1 : 0 ≤ k) (k2 : k ≤ 255) :
    Fn Tryd.prog TabE 5 [zR s l, ex (.int .u8 k), ex (.int .i64 raw), ex (.bool wild)] (ex (.bool true)) := by
  have C1 := flong TabE s l
  by_cases hlong : 20 < l.length
  · rw [decide_eq_true (by omega)] at C1
    refine fn_of_body Tryd.func5 rfl Tryd.ntmps5 rfl ?_
    intro w0 h0
    repeat (first | refine js ?_ | refine jb ?_)
    refine jr ?_
    refine jT (ru_boxR rfl rfl rfl) ?_
    refine ja rfl ?_
    refine RG.nil (by kernel_rfl) ?_
    repeat (first | refine js ?_ | refine jb ?_)
    refine jr ?_
    refine jS (ru_loadR rfl rfl rfl rfl) ?_
    refine jS (ru_call C1 ⟨rfl, trivial⟩) ?_
    refine RG.nil (by kernel_rfl) ?_
    repeat (first | refine js ?_ | refine jb ?_)
    refine WpD.condT rfl ?_
    repeat (first | refine js ?_ | refine jb ?_)
    refine jr ?_
    refine jS (ru_call fawake trivial) ?_
    refine ja rfl ?_
    refine RG.nil (by kernel_rfl) ?_
    repeat (first | refine js ?_ | refine jb ?_)
    refine WpD.ret ?_
    exact ret1 rfl (.tmp rfl) (PLe.refl _)
  · rw [decide_eq_false (by omega)] at C1
    have C2 := fprime TabE k k1 k2
    refine fn_of_body Tryd.func5 rfl Tryd.ntmps5 rfl ?_
    intro w0 h0
    repeat (first | refine js ?_ | refine jb ?_)
    refine jr ?_
    refine jT (ru_boxR rfl rfl rfl) ?_
    refine ja rfl ?_
    refine RG.nil (by kernel_rfl) ?_
    repeat (first | refine js ?_ | refine jb ?_)
    refine jr ?_
    refine jS (ru_loadR rfl rfl rfl rfl) ?_
    refine jS (ru_call C1 ⟨rfl, trivial⟩) ?_
    refine RG.nil (by kernel_rfl) ?_
    repeat (first | refine js ?_ | refine jb ?_)
    refine WpD.condF rfl ?_
    repeat (first | refine js ?_ | refine jb ?_)
    refine WpD.skip ?_
    repeat (first | refine js ?_ | refine jb ?_)
    refine jr ?_
    refine jm rfl ?_
    refine jS (ru_call C2 ⟨rfl, trivial⟩) ?_
    refine ja rfl ?_
    refine RG.nil (by kernel_rfl) ?_
    refine WpD.cut (α := Int) (fun p => ⟨[(4, .ptr 4 0), (9, .one (ex (.int .i64 p)))], [(4, [ex (.bool s), mag l])]⟩) ?_ ?_
    · cases wild with
      | true =>
        repeat (first | refine js ?_ | refine jb ?_)
        refine jr ?_
        refine jm rfl ?_
        refine RG.nil (by kernel_rfl) ?_
        repeat (first | refine js ?_ | refine jb ?_)
        refine WpD.condT rfl ?_
        repeat (first | refine js ?_ | refine jb ?_)
        refine jr ?_
        refine jm rfl ?_
        refine ja rfl ?_
        refine RG.nil (by kernel_rfl) ?_
        refine ⟨raw, ?_⟩
        refine Sub.mk ?_ ?_
        · repeat (first | exact trivial | refine jv rfl ?_ | refine jw rfl (js0 rfl) ?_ | refine jw rfl ⟨js0 rfl, js0 rfl⟩ ?_ | refine jx rfl ⟨js0 rfl, js0 rfl⟩ ?_ | refine jw rfl (clo_live (js0 rfl) (js0 rfl)) ?_ | refine ⟨⟨_, rfl, PLe.refl _⟩, trivial, ?_⟩)
        · repeat (first | exact trivial | refine jz ?_ | refine jy rfl ?_)
      | false =>
        repeat (first | refine js ?_ | refine jb ?_)
        refine jr ?_
        refine jm rfl ?_
        refine RG.nil (by kernel_rfl) ?_
        repeat (first | refine js ?_ | refine jb ?_)
        refine WpD.condF rfl ?_
        repeat (first | refine js ?_ | refine jb ?_)
        refine WpD.skip ?_
        refine ⟨pr20 (k % 20).toNat, ?_⟩
        refine Sub.mk ?_ ?_
        · repeat (first | exact trivial | refine jv rfl ?_ | refine jw rfl (js0 rfl) ?_ | refine jw rfl ⟨js0 rfl, js0 rfl⟩ ?_ | refine jx rfl ⟨js0 rfl, js0 rfl⟩ ?_ | refine jw rfl (clo_live (js0 rfl) (js0 rfl)) ?_ | refine ⟨⟨_, rfl, PLe.refl _⟩, trivial, ?_⟩)
        · repeat (first | exact trivial | refine jz ?_ | refine jy rfl ?_)
    intro p
    have hb : ∀ x : Int, (x == x) = true := by simp
    cases hP : isP p.toNat with
    | false =>
      have C3 := ival_np s l p hP
      have C4 := fval_np TabE s l p hP
      have C5 := same0
      repeat (first | refine js ?_ | refine jb ?_)
      refine jr ?_
      refine jS (ru_loadR rfl rfl rfl rfl) ?_
      refine jm rfl ?_
      refine jS (ru_call C3 ⟨rfl, rfl, trivial⟩) ?_
      refine jm rfl ?_
      refine jS (rt_extract rfl rfl) ?_
      refine jS (rt_extract rfl rfl) ?_
      refine jS (rt_extract rfl rfl) ?_
      refine jT (ru_alloc rfl rfl rfl) ?_
      refine ja rfl ?_
      refine jO (ru_storeR rfl rfl rfl rfl rfl rfl) ?_
      refine ja rfl ?_
      refine RG.nil (by kernel_rfl) ?_
      repeat (first | refine js ?_ | refine jb ?_)
      refine jr ?_
      refine jS (ru_loadR rfl rfl rfl rfl) ?_
      refine jm rfl ?_
      refine jS (ru_call C4 ⟨rfl, rfl, trivial⟩) ?_
      refine jm rfl ?_
      refine jS (rt_extract rfl rfl) ?_
      refine jS (rt_extract rfl rfl) ?_
      refine jS (rt_extract rfl rfl) ?_
      refine jT (ru_alloc rfl rfl rfl) ?_
      refine ja rfl ?_
      refine jO (ru_storeR rfl rfl rfl rfl rfl rfl) ?_
      refine ja rfl ?_
      refine RG.nil (by kernel_rfl) ?_
      repeat (first | refine js ?_ | refine jb ?_)
      refine jr ?_
      refine jm rfl ?_
      refine jm rfl ?_
      refine jS (rt_bin rfl rfl (fun w => run_eqi w _ _ _ _ _ _)) ?_
      refine jm rfl ?_
      first | refine RG.S0 (LT.run rfl rfl rfl (rt_move rfl)) ?_ | refine RG.S0 (LT.skip rfl rfl rfl) ?_
      first | refine RG.S0 (LT.run rfl rfl rfl (rt_move rfl)) ?_ | refine RG.S0 (LT.skip rfl rfl rfl) ?_
      first | refine RG.S0 (LT.run rfl rfl rfl (rt_bin rfl rfl (fun w => run_eqi w _ _ _ _ _ _))) ?_ | refine RG.S0 (LT.skip rfl rfl rfl) ?_
      first | refine jS (rt_pick_true rfl rfl) ?_ | refine jS (rt_pick_false rfl rfl) ?_
      refine jm rfl ?_
      first | refine RG.S0 (LT.run rfl rfl rfl (ru_loadR rfl rfl rfl rfl)) ?_ | refine RG.S0 (LT.skip rfl rfl rfl) ?_
      first | refine RG.S0 (LT.run rfl rfl rfl (ru_loadR rfl rfl rfl rfl)) ?_ | refine RG.S0 (LT.skip rfl rfl rfl) ?_
      first | refine RG.S0 (LT.run rfl rfl rfl (ru_call C5 ⟨rfl, rfl, trivial⟩)) ?_ | refine RG.S0 (LT.skip rfl rfl rfl) ?_
      first | refine jS (rt_pick_true rfl rfl) ?_ | refine jS (rt_pick_false rfl rfl) ?_
      refine jm rfl ?_
      first | refine RG.S0 (LT.run rfl rfl rfl (ru_call fawake trivial)) ?_ | refine RG.S0 (LT.skip rfl rfl rfl) ?_
      first | refine jS (rt_pick_true rfl rfl) ?_ | refine jS (rt_pick_false rfl rfl) ?_
      refine ja rfl ?_
      refine RG.nil (by kernel_rfl) ?_
      repeat (first | refine js ?_ | refine jb ?_)
      refine WpD.ret ?_
      exact ret1 rfl (.tmp rfl) (PLe.refl _)
    | true =>
      have hP2 := isP_le hP
      obtain ⟨P, rfl⟩ : ∃ P : Nat, p = (P : Int) := ⟨p.toNat, by omega⟩
      by_cases h0 : zv s l = 0
      · have C3 := ival_0 s l (P : Int) hl (by omega) hP h0
        have C4 := fval_0 TabE s l (P : Int) (by omega) hP h0
        have C5 := same0
        repeat (first | refine js ?_ | refine jb ?_)
        refine jr ?_
        refine jS (ru_loadR rfl rfl rfl rfl) ?_
        refine jm rfl ?_
        refine jS (ru_call C3 ⟨rfl, rfl, trivial⟩) ?_
        refine jm rfl ?_
        refine jS (rt_extract rfl rfl) ?_
        refine jS (rt_extract rfl rfl) ?_
        refine jS (rt_extract rfl rfl) ?_
        refine jT (ru_alloc rfl rfl rfl) ?_
        refine ja rfl ?_
        refine jO (ru_storeR rfl rfl rfl rfl rfl rfl) ?_
        refine ja rfl ?_
        refine RG.nil (by kernel_rfl) ?_
        repeat (first | refine js ?_ | refine jb ?_)
        refine jr ?_
        refine jS (ru_loadR rfl rfl rfl rfl) ?_
        refine jm rfl ?_
        refine jS (ru_call C4 ⟨rfl, rfl, trivial⟩) ?_
        refine jm rfl ?_
        refine jS (rt_extract rfl rfl) ?_
        refine jS (rt_extract rfl rfl) ?_
        refine jS (rt_extract rfl rfl) ?_
        refine jT (ru_alloc rfl rfl rfl) ?_
        refine ja rfl ?_
        refine jO (ru_storeR rfl rfl rfl rfl rfl rfl) ?_
        refine ja rfl ?_
        refine RG.nil (by kernel_rfl) ?_
        repeat (first | refine js ?_ | refine jb ?_)
        refine jr ?_
        refine jm rfl ?_
        refine jm rfl ?_
        refine jS (rt_bin rfl rfl (fun w => run_eqi w _ _ _ _ _ _)) ?_
        refine jm rfl ?_
        first | refine RG.S0 (LT.run rfl rfl rfl (rt_move rfl)) ?_ | refine RG.S0 (LT.skip rfl rfl rfl) ?_
        first | refine RG.S0 (LT.run rfl rfl rfl (rt_move rfl)) ?_ | refine RG.S0 (LT.skip rfl rfl rfl) ?_
        first | refine RG.S0 (LT.run rfl rfl rfl (rt_bin rfl rfl (fun w => run_eqi w _ _ _ _ _ _))) ?_ | refine RG.S0 (LT.skip rfl rfl rfl) ?_
        first | refine jS (rt_pick_true rfl rfl) ?_ | refine jS (rt_pick_false rfl rfl) ?_
        refine jm rfl ?_
        first | refine RG.S0 (LT.run rfl rfl rfl (ru_loadR rfl rfl rfl rfl)) ?_ | refine RG.S0 (LT.skip rfl rfl rfl) ?_
        first | refine RG.S0 (LT.run rfl rfl rfl (ru_loadR rfl rfl rfl rfl)) ?_ | refine RG.S0 (LT.skip rfl rfl rfl) ?_
        first | refine RG.S0 (LT.run rfl rfl rfl (ru_call C5 ⟨rfl, rfl, trivial⟩)) ?_ | refine RG.S0 (LT.skip rfl rfl rfl) ?_
        first | refine jS (rt_pick_true rfl rfl) ?_ | refine jS (rt_pick_false rfl rfl) ?_
        refine jm rfl ?_
        first | refine RG.S0 (LT.run rfl rfl rfl (ru_call fawake trivial)) ?_ | refine RG.S0 (LT.skip rfl rfl rfl) ?_
        first | refine jS (rt_pick_true rfl rfl) ?_ | refine jS (rt_pick_false rfl rfl) ?_
        refine ja rfl ?_
        refine RG.nil (by kernel_rfl) ?_
        repeat (first | refine js ?_ | refine jb ?_)
        refine WpD.ret ?_
        exact ret1 rfl (.tmp rfl) (PLe.refl _)
      · obtain ⟨e, u, hx, hu⟩ := val_ex (p := (P : Int)) (by omega) _ (zv s l) (Nat.le_refl _) h0
        have C3 := ival s l P e u hl (by omega) hP hx hu
        have C4 := fval TabE s l P e u hl (by omega) hP hx hu
        have hzu : zl u ≤ 20 := by
          refine Nat.le_trans (zl_mono (b := zv s l) ?_) (Nat.le_trans (zl_zv s hl) (by omega))
          rw [hx, Int.natAbs_mul]
          exact Nat.le_mul_of_pos_left _ (Int.natAbs_pos.2 (ppow_ne (by omega) _))
        have C5 := fsame TabE u u (show zl u ≤ _ by omega) (show zl u ≤ _ by omega)
        rw [decide_eq_true rfl] at C5
        repeat (first | refine js ?_ | refine jb ?_)
        refine jr ?_
        refine jS (ru_loadR rfl rfl rfl rfl) ?_
        refine jm rfl ?_
        refine jS (ru_call C3 ⟨rfl, rfl, trivial⟩) ?_
        refine jm rfl ?_
        refine jS (rt_extract rfl rfl) ?_
        refine jS (rt_extract rfl rfl) ?_
        refine jS (rt_extract rfl rfl) ?_
        refine jT (ru_alloc rfl rfl rfl) ?_
        refine ja rfl ?_
        refine jO (ru_storeR rfl rfl rfl rfl rfl rfl) ?_
        refine ja rfl ?_
        refine RG.nil (by kernel_rfl) ?_
        repeat (first | refine js ?_ | refine jb ?_)
        refine jr ?_
        refine jS (ru_loadR rfl rfl rfl rfl) ?_
        refine jm rfl ?_
        refine jS (ru_call C4 ⟨rfl, rfl, trivial⟩) ?_
        refine jm rfl ?_
        refine jS (rt_extract rfl rfl) ?_
        refine jS (rt_extract rfl rfl) ?_
        refine jS (rt_extract rfl rfl) ?_
        refine jT (ru_alloc rfl rfl rfl) ?_
        refine ja rfl ?_
        refine jO (ru_storeR rfl rfl rfl rfl rfl rfl) ?_
        refine ja rfl ?_
        refine RG.nil (by kernel_rfl) ?_
        repeat (first | refine js ?_ | refine jb ?_)
        refine jr ?_
        refine jm rfl ?_
        refine jm rfl ?_
        refine jS (rt_bin_to rfl rfl (fun w => run_eqi w _ _ _ _ _ _) (vbool (hb _))) ?_
        refine jm rfl ?_
        first | refine RG.S0 (LT.run rfl rfl rfl (rt_move rfl)) ?_ | refine RG.S0 (LT.skip rfl rfl rfl) ?_
        first | refine RG.S0 (LT.run rfl rfl rfl (rt_move rfl)) ?_ | refine RG.S0 (LT.skip rfl rfl rfl) ?_
        first | refine RG.S0 (LT.run rfl rfl rfl (rt_bin rfl rfl (fun w => run_eqi w _ _ _ _ _ _))) ?_ | refine RG.S0 (LT.skip rfl rfl rfl) ?_
        first | refine jS (rt_pick_true rfl rfl) ?_ | refine jS (rt_pick_false rfl rfl) ?_
        refine jm rfl ?_
        first | refine RG.S0 (LT.run rfl rfl rfl (ru_loadR rfl rfl rfl rfl)) ?_ | refine RG.S0 (LT.skip rfl rfl rfl) ?_
        first | refine RG.S0 (LT.run rfl rfl rfl (ru_loadR rfl rfl rfl rfl)) ?_ | refine RG.S0 (LT.skip rfl rfl rfl) ?_
        first | refine RG.S0 (LT.run rfl rfl rfl (ru_call C5 ⟨rfl, rfl, trivial⟩)) ?_ | refine RG.S0 (LT.skip rfl rfl rfl) ?_
        first | refine jS (rt_pick_true rfl rfl) ?_ | refine jS (rt_pick_false rfl rfl) ?_
        refine jm rfl ?_
        first | refine RG.S0 (LT.run rfl rfl rfl (ru_call fawake trivial)) ?_ | refine RG.S0 (LT.skip rfl rfl rfl) ?_
        first | refine jS (rt_pick_true rfl rfl) ?_ | refine jS (rt_pick_false rfl rfl) ?_
        refine ja rfl ?_
        refine RG.nil (by kernel_rfl) ?_
        repeat (first | refine js ?_ | refine jb ?_)
        refine WpD.ret ?_
        exact ret1 rfl (.tmp rfl) (PLe.refl _)
/-- The scene's odd prime numbers. -/
def od8 (j : Nat) : Nat := ([3, 5, 7, 11, 13, 17, 19, 23] : List Nat).getD j 0
set_option maxHeartbeats 4000000 in
theorem odd_any (k : Int) (w : World) (h1 : 0 ≤ k) (h2 : k ≤ 255) :
    Calls Tryd.prog 17 #[.int .u8 k] w fun e w' => e = .returned (.int .i64 (od8 (k % 8).toNat : Int)) ∧ Below w.heap.size w w' := by
  have hr : k % 8 = 0 ∨ k % 8 = 1 ∨ k % 8 = 2 ∨ k % 8 = 3 ∨ k % 8 = 4 ∨ k % 8 = 5 ∨ k % 8 = 6 ∨ k % 8 = 7 := by omega
  obtain ⟨r, hrr⟩ : ∃ r, k % 8 = r := ⟨_, rfl⟩
  rw [hrr] at hr
  have HR := Lib.hid hrr
  rcases hr with rfl | rfl | rfl | rfl | rfl | rfl | rfl | rfl
  all_goals
    go_enter Tryd.func17, Tryd.ntmps17
    go_wp2_with fail
    go_ret
    refine ⟨?_, (Below.refl _ _).alloc (Nat.le_refl _) _⟩
    first | rfl | (rw [HR.out]; rfl)
theorem fodd (En : Ev) (k : Int) (h1 : 0 ≤ k) (h2 : k ≤ 255) : Fn Tryd.prog En 17 [ex (.int .u8 k)] (ex (.int .i64 (od8 (k % 8).toNat : Int))) := by
  intro h w vs _ hh hv
  obtain ⟨v, rfl, e1⟩ := hv.one
  have e1 : v = .int .u8 k := e1
  subst e1
  exact (odd_any k w h1 h2).mono fun _ _ ⟨he, hb⟩ => ex_fnU hh he hb
theorem od8_ok : ∀ j : Fin 8, isP (od8 j.1) = true ∧ 3 ≤ od8 j.1 ∧ od8 j.1 ≤ 23 := by decide +kernel
theorem cmpZ_self (z : Int) : cmpZ z z = 0 := by unfold cmpZ; simp
set_option maxHeartbeats 2000000 in
theorem lvalback (n k many : Int) (n1 : -9223372036854775808 ≤ n) (n2 : n ≤ 9223372036854775807) (k1 : 0 ≤ k) (k2 : k ≤ 255) (m1 : 0 ≤ many) (m2 : many ≤ 255) :
    Fn Tryd.prog TabE 6 [ex (.int .i64 n), ex (.int .u8 k), ex (.int .u8 many)] (ex (.bool true)) := by
  have C1 := fodd TabE k k1 k2
  obtain ⟨hP, P2, P3⟩ := od8_ok ⟨(k % 8).toNat, by omega⟩
  dsimp only at hP P2 P3
  generalize od8 (k % 8).toNat = P at *
  by_cases h0 : n = 0
  · subst h0
    refine fn_of_body Tryd.func6 rfl Tryd.ntmps6 rfl ?_
    intro w0 h0
    repeat (first | refine js ?_ | refine jb ?_)
    refine jr ?_
    refine ja rfl ?_
    refine RG.nil (by kernel_rfl) ?_
    repeat (first | refine js ?_ | refine jb ?_)
    refine jr ?_
    refine jm rfl ?_
    refine jS (ru_call C1 ⟨rfl, trivial⟩) ?_
    refine ja rfl ?_
    refine RG.nil (by kernel_rfl) ?_
    repeat (first | refine js ?_ | refine jb ?_)
    refine jr ?_
    refine jm rfl ?_
    refine jS (rt_bin_to rfl rfl (fun w => run_eqi w _ _ _ _ _ _) (vbool (beqT (by first | assumption | omega)))) ?_
    refine RG.nil (by kernel_rfl) ?_
    repeat (first | refine js ?_ | refine jb ?_)
    refine WpD.condT rfl ?_
    repeat (first | refine js ?_ | refine jb ?_)
    refine jr ?_
    refine jS (ru_call fawake trivial) ?_
    refine ja rfl ?_
    refine RG.nil (by kernel_rfl) ?_
    repeat (first | refine js ?_ | refine jb ?_)
    refine WpD.ret ?_
    exact ret1 rfl (.tmp rfl) (PLe.refl _)
  obtain ⟨m, hm⟩ : ∃ m : Nat, many % 20 = (m : Int) := ⟨(many % 20).toNat, by omega⟩
  obtain ⟨f, u, hnu, hu⟩ := val_ex (p := (P : Int)) (by omega) _ n (Nat.le_refl _) h0
  have hu0 : u ≠ 0 := by rintro rfl; exact hu ⟨0, by simp⟩
  have hf : f < 40 := by
    rcases Nat.lt_or_ge f 40 with h | h
    · exact h
    · exfalso
      have h1 : P ^ f ≤ n.natAbs := by
        rw [hnu, Int.natAbs_mul, Int.natAbs_pow, Int.natAbs_natCast]
        exact Nat.le_mul_of_pos_right _ (by omega)
      have h2 : 3 ^ 40 ≤ P ^ f := Nat.le_trans (Nat.pow_le_pow_left P2 40) (Nat.pow_le_pow_right (by omega) h)
      have h3 : (3 : Nat) ^ 40 = 12157665459056928801 := by decide
      omega
  have w1 : IntKind.i64.wrap many = many := w64 (by omega) (by omega)
  have w2 : many.tmod 20 = (m : Int) := by rw [Int.tmod_eq_emod_of_nonneg m1]; exact hm
  have w3 : IntKind.i64.wrap ((m : Int) + 40) = (m : Int) + 40 := w64 (by omega) (by omega)
  have zP : zl (P : Int) ≤ 2 := zl_small (by omega) (by omega)
  have zn : zl n ≤ 2 := zl_small (by omega) (by omega)
  have zu : zl u ≤ 2 := by
    refine Nat.le_trans (zl_mono (b := n) ?_) zn
    rw [hnu, Int.natAbs_mul]
    exact Nat.le_mul_of_pos_left _ (Int.natAbs_pos.2 (ppow_ne (by omega) _))
  have zq := zl_ppow (P := P) (by omega) m
  have zr := zl_ppow (P := P) (by omega) (m + f)
  have zx : zl ((P : Int) ^ m * n) ≤ 23 := Nat.le_trans (zl_mul _ _) (by omega)
  have hx : (P : Int) ^ m * n = (P : Int) ^ (m + f) * u := by rw [Int.pow_add, Int.mul_assoc, ← hnu]
  have C2 := ksmall TabE (P : Int) (by omega) (by omega)
  have C3 := kpow TabE (P : Int) m (by omega) (by omega)
  have C4 := ksmall TabE n n1 n2
  have C5 := kmul TabE ((P : Int) ^ m) n (by omega) (by omega)
  have C6 := ival (decide ((P : Int) ^ m * n < 0)) (digs ((P : Int) ^ m * n).natAbs) P (m + f) u (lm_digs _) (Nat.le_trans zx (by omega)) hP (by rw [zv_C]; exact hx) hu
  have C7 := kpow TabE (P : Int) (m + f) (by omega) (by omega)
  have C8 := kdivmod TabE u (P : Int) (by omega) (by omega) (by omega)
  have hr0 : u % (P : Int) ≠ 0 := fun h => hu (Int.dvd_of_emod_eq_zero h)
  have C9 := ksign TabE (u % (P : Int)) (Nat.le_trans (zl_mod (by omega)) (by omega))
  have bq : (sg3 (u % (P : Int)) != 0) = true := by rw [sg3_zero]; exact decide_eq_true hr0
  have C10 := kmul TabE ((P : Int) ^ (m + f)) u (by omega) (by omega)
  have C11 := kcmp TabE ((P : Int) ^ (m + f) * u) ((P : Int) ^ m * n) (by rw [← hx]; omega) (by omega)
  rw [hx, cmpZ_self] at C11
  have C5' := C5
  rw [hx] at C5'
  refine fn_of_body Tryd.func6 rfl Tryd.ntmps6 rfl ?_
  intro w0 h0
  repeat (first | refine js ?_ | refine jb ?_)
  refine jr ?_
  refine ja rfl ?_
  refine RG.nil (by kernel_rfl) ?_
  repeat (first | refine js ?_ | refine jb ?_)
  refine jr ?_
  refine jm rfl ?_
  refine jS (ru_call C1 ⟨rfl, trivial⟩) ?_
  refine ja rfl ?_
  refine RG.nil (by kernel_rfl) ?_
  repeat (first | refine js ?_ | refine jb ?_)
  refine jr ?_
  refine jm rfl ?_
  refine jS (rt_bin_to rfl rfl (fun w => run_eqi w _ _ _ _ _ _) (vbool (beqF (by first | assumption | omega)))) ?_
  refine RG.nil (by kernel_rfl) ?_
  repeat (first | refine js ?_ | refine jb ?_)
  refine WpD.condF rfl ?_
  repeat (first | refine js ?_ | refine jb ?_)
  refine WpD.skip ?_
  repeat (first | refine js ?_ | refine jb ?_)
  refine jr ?_
  refine jm rfl ?_
  refine jS (ru_call C2 ⟨rfl, trivial⟩) ?_
  refine jm rfl ?_
  refine jS (rt_conv_to rfl (fun w => run_convi w CInt.ok CInt.ok _ _) (vint w1)) ?_
  refine jS (rt_bin_to rfl rfl (fun w => run_remi w _ _ _ _ _ _ (by first | decide | omega | assumption)) (vint w2)) ?_
  refine jS (ru_call C3 ⟨rfl, rfl, trivial⟩) ?_
  refine jm rfl ?_
  refine jS (rt_extract rfl rfl) ?_
  refine jS (rt_extract rfl rfl) ?_
  refine jT (ru_alloc rfl rfl rfl) ?_
  refine jO (ru_storeR rfl rfl rfl rfl rfl rfl) ?_
  refine ja rfl ?_
  refine RG.nil (by kernel_rfl) ?_
  repeat (first | refine js ?_ | refine jb ?_)
  refine jr ?_
  refine jS (ru_loadR rfl rfl rfl rfl) ?_
  refine jm rfl ?_
  refine jS (ru_call C4 ⟨rfl, trivial⟩) ?_
  refine jS (ru_call C5 ⟨rfl, rfl, trivial⟩) ?_
  refine jm rfl ?_
  refine jS (ru_call C6 ⟨rfl, rfl, trivial⟩) ?_
  refine jm rfl ?_
  refine jS (rt_extract rfl rfl) ?_
  refine jS (rt_extract rfl rfl) ?_
  refine jS (rt_extract rfl rfl) ?_
  refine jT (ru_alloc rfl rfl rfl) ?_
  refine ja rfl ?_
  refine jO (ru_storeR rfl rfl rfl rfl rfl rfl) ?_
  refine ja rfl ?_
  refine RG.nil (by kernel_rfl) ?_
  repeat (first | refine js ?_ | refine jb ?_)
  refine jr ?_
  refine jm rfl ?_
  refine jS (rt_un rfl (fun w => run_not w _)) ?_
  refine jm rfl ?_
  first | refine RG.S0 (LT.run rfl rfl rfl (rt_move rfl)) ?_ | refine RG.S0 (LT.skip rfl rfl rfl) ?_
  first | refine RG.S0 (LT.run rfl rfl rfl (rt_bin_to rfl rfl (fun w => run_nei w _ _ _ _ _ _) (vbool (bneF (by first | assumption | omega))))) ?_ | refine RG.S0 (LT.skip rfl rfl rfl) ?_
  first | refine jS (rt_pick_true rfl rfl) ?_ | refine jS (rt_pick_false rfl rfl) ?_
  refine jm rfl ?_
  first | refine RG.S0 (LT.run rfl rfl rfl (rt_move rfl)) ?_ | refine RG.S0 (LT.skip rfl rfl rfl) ?_
  first | refine RG.S0 (LT.run rfl rfl rfl (rt_move rfl)) ?_ | refine RG.S0 (LT.skip rfl rfl rfl) ?_
  first | refine RG.S0 (LT.run rfl rfl rfl (rt_conv_to rfl (fun w => run_convi w CInt.ok CInt.ok _ _) (vint w1))) ?_ | refine RG.S0 (LT.skip rfl rfl rfl) ?_
  first | refine RG.S0 (LT.run rfl rfl rfl (rt_bin_to rfl rfl (fun w => run_remi w _ _ _ _ _ _ (by first | decide | omega | assumption)) (vint w2))) ?_ | refine RG.S0 (LT.skip rfl rfl rfl) ?_
  first | refine RG.S0 (LT.run rfl rfl rfl (rt_bin_to rfl rfl (fun w => run_lti w _ _ _ _ _ _) (vbool (decide_eq_false (by first | assumption | omega))))) ?_ | refine RG.S0 (LT.skip rfl rfl rfl) ?_
  first | refine jS (rt_pick_true rfl rfl) ?_ | refine jS (rt_pick_false rfl rfl) ?_
  refine jm rfl ?_
  first | refine RG.S0 (LT.run rfl rfl rfl (rt_move rfl)) ?_ | refine RG.S0 (LT.skip rfl rfl rfl) ?_
  first | refine RG.S0 (LT.run rfl rfl rfl (rt_move rfl)) ?_ | refine RG.S0 (LT.skip rfl rfl rfl) ?_
  first | refine RG.S0 (LT.run rfl rfl rfl (rt_conv_to rfl (fun w => run_convi w CInt.ok CInt.ok _ _) (vint w1))) ?_ | refine RG.S0 (LT.skip rfl rfl rfl) ?_
  first | refine RG.S0 (LT.run rfl rfl rfl (rt_bin_to rfl rfl (fun w => run_remi w _ _ _ _ _ _ (by first | decide | omega | assumption)) (vint w2))) ?_ | refine RG.S0 (LT.skip rfl rfl rfl) ?_
  first | refine RG.S0 (LT.run rfl rfl rfl (rt_bin_to rfl rfl (fun w => run_addi w _ _ _ _ _ _) (vint w3))) ?_ | refine RG.S0 (LT.skip rfl rfl rfl) ?_
  first | refine RG.S0 (LT.run rfl rfl rfl (rt_bin_to rfl rfl (fun w => run_gti w _ _ _ _ _ _) (vbool (decide_eq_false (by first | assumption | omega))))) ?_ | refine RG.S0 (LT.skip rfl rfl rfl) ?_
  first | refine jS (rt_pick_true rfl rfl) ?_ | refine jS (rt_pick_false rfl rfl) ?_
  refine RG.nil (by kernel_rfl) ?_
  repeat (first | refine js ?_ | refine jb ?_)
  refine WpD.condF rfl ?_
  repeat (first | refine js ?_ | refine jb ?_)
  refine WpD.skip ?_
  repeat (first | refine js ?_ | refine jb ?_)
  repeat (first | refine js ?_ | refine jb ?_)
  refine jr ?_
  refine jm rfl ?_
  refine jS (ru_call C2 ⟨rfl, trivial⟩) ?_
  refine jm rfl ?_
  refine jS (ru_call C7 ⟨rfl, rfl, trivial⟩) ?_
  refine jm rfl ?_
  refine jS (rt_extract rfl rfl) ?_
  refine jS (rt_extract rfl rfl) ?_
  refine jT (ru_alloc rfl rfl rfl) ?_
  refine jO (ru_storeR rfl rfl rfl rfl rfl rfl) ?_
  refine ja rfl ?_
  refine RG.nil (by kernel_rfl) ?_
  repeat (first | refine js ?_ | refine jb ?_)
  refine jr ?_
  refine jS (ru_loadR rfl rfl rfl rfl) ?_
  refine jm rfl ?_
  refine jS (ru_call C2 ⟨rfl, trivial⟩) ?_
  refine jS (ru_call C8 ⟨rfl, rfl, trivial⟩) ?_
  refine jm rfl ?_
  refine jS (rt_extract rfl rfl) ?_
  refine jS (rt_extract rfl rfl) ?_
  refine jS (rt_extract rfl rfl) ?_
  refine jT (ru_alloc rfl rfl rfl) ?_
  refine jT (ru_alloc rfl rfl rfl) ?_
  refine jO (ru_storeR rfl rfl rfl rfl rfl rfl) ?_
  refine jO (ru_storeR rfl rfl rfl rfl rfl rfl) ?_
  refine ja rfl ?_
  refine RG.nil (by kernel_rfl) ?_
  repeat (first | refine js ?_ | refine jb ?_)
  repeat (first | refine js ?_ | refine jb ?_)
  refine jr ?_
  refine jm rfl ?_
  refine jm rfl ?_
  first | refine RG.S0 (LT.run rfl rfl rfl (rt_move rfl)) ?_ | refine RG.S0 (LT.skip rfl rfl rfl) ?_
  first | refine jS (rt_pick_true rfl rfl) ?_ | refine jS (rt_pick_false rfl rfl) ?_
  refine jm rfl ?_
  first | refine RG.S0 (LT.run rfl rfl rfl (ru_loadR rfl rfl rfl rfl)) ?_ | refine RG.S0 (LT.skip rfl rfl rfl) ?_
  first | refine RG.S0 (LT.run rfl rfl rfl (ru_call C9 ⟨rfl, trivial⟩)) ?_ | refine RG.S0 (LT.skip rfl rfl rfl) ?_
  first | refine RG.S0 (LT.run rfl rfl rfl (rt_bin_to rfl rfl (fun w => run_nei w _ _ _ _ _ _) (vbool bq))) ?_ | refine RG.S0 (LT.skip rfl rfl rfl) ?_
  first | refine jS (rt_pick_true rfl rfl) ?_ | refine jS (rt_pick_false rfl rfl) ?_
  refine jm rfl ?_
  first | refine RG.S0 (LT.run rfl rfl rfl (ru_loadR rfl rfl rfl rfl)) ?_ | refine RG.S0 (LT.skip rfl rfl rfl) ?_
  first | refine RG.S0 (LT.run rfl rfl rfl (ru_loadR rfl rfl rfl rfl)) ?_ | refine RG.S0 (LT.skip rfl rfl rfl) ?_
  first | refine RG.S0 (LT.run rfl rfl rfl (ru_call C10 ⟨rfl, rfl, trivial⟩)) ?_ | refine RG.S0 (LT.skip rfl rfl rfl) ?_
  first | refine RG.S0 (LT.run rfl rfl rfl (ru_loadR rfl rfl rfl rfl)) ?_ | refine RG.S0 (LT.skip rfl rfl rfl) ?_
  first | refine RG.S0 (LT.run rfl rfl rfl (rt_move rfl)) ?_ | refine RG.S0 (LT.skip rfl rfl rfl) ?_
  first | refine RG.S0 (LT.run rfl rfl rfl (ru_call C4 ⟨rfl, trivial⟩)) ?_ | refine RG.S0 (LT.skip rfl rfl rfl) ?_
  first | refine RG.S0 (LT.run rfl rfl rfl (ru_call C5' ⟨rfl, rfl, trivial⟩)) ?_ | refine RG.S0 (LT.skip rfl rfl rfl) ?_
  first | refine RG.S0 (LT.run rfl rfl rfl (ru_call C11 ⟨rfl, rfl, trivial⟩)) ?_ | refine RG.S0 (LT.skip rfl rfl rfl) ?_
  first | refine RG.S0 (LT.run rfl rfl rfl (rt_bin rfl rfl (fun w => run_eqi w _ _ _ _ _ _))) ?_ | refine RG.S0 (LT.skip rfl rfl rfl) ?_
  first | refine jS (rt_pick_true rfl rfl) ?_ | refine jS (rt_pick_false rfl rfl) ?_
  refine jm rfl ?_
  first | refine RG.S0 (LT.run rfl rfl rfl (ru_call fawake trivial)) ?_ | refine RG.S0 (LT.skip rfl rfl rfl) ?_
  first | refine jS (rt_pick_true rfl rfl) ?_ | refine jS (rt_pick_false rfl rfl) ?_
  refine ja rfl ?_
  refine RG.nil (by kernel_rfl) ?_
  repeat (first | refine js ?_ | refine jb ?_)
  refine WpD.ret ?_
  exact ret1 rfl (.tmp rfl) (PLe.refl _)
theorem law_PrimeValuation {s : Bool} {l : List Nat} {v : Value} (k raw : Int) (wild : Bool) (w : World) (hv : (zR s l).p (wGH w) v) (hl : Lm l) (wk : (Lit.int .u8 k).wf = true) (ht : Tab w) :
    Calls Tryd.prog 5 #[v, .int .u8 k, .int .i64 raw, .bool wild] w fun e w' => e = .returned (.bool true) ∧ Below w.heap.size w w' := by
  obtain ⟨k1, k2⟩ := bounds_u8 wk
  exact fn_trueW (lval s l k raw wild hl k1 k2) w ht (wGH_holds w) ⟨hv, rfl, rfl, rfl, trivial⟩
theorem law_PrimeValuationBack (n k many : Int) (w : World) (wn : (Lit.int .i64 n).wf = true) (wk : (Lit.int .u8 k).wf = true) (wm : (Lit.int .u8 many).wf = true) (ht : Tab w) :
    Calls Tryd.prog 6 #[.int .i64 n, .int .u8 k, .int .u8 many] w fun e w' => e = .returned (.bool true) ∧ Below w.heap.size w w' := by
  obtain ⟨n1, n2⟩ := bounds_i64 wn
  obtain ⟨k1, k2⟩ := bounds_u8 wk
  obtain ⟨m1, m2⟩ := bounds_u8 wm
  exact fn_true (lvalback n k many (by omega) (by omega) k1 k2 m1 m2) w ht ⟨rfl, rfl, rfl, trivial⟩
end Go.Proofs.YtnhbdldchoepfaaDoor

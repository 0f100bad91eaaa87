/- Statements of chapter 32: Diagonal, Pairs. -/
import Derived.Test.YtpiflllcjgpkhaaGreatDoorMx
import Derived.Test.YtpiflllcjgpkhaaGreatDoorMbd
set_option maxRecDepth 3000
namespace Go.Proofs.YtpiflllcjgpkhaaGreatDoor
open Go.RowKit Limb Num
theorem cmpQ_self (a : Rat) : cmpQ a a = 0 := by unfold cmpQ cmpZ; simp
set_option maxHeartbeats 1000000 in
theorem ldiag (k raw d c dim sign : Int) (wild made : Bool) (k1 : 0 ≤ k) (k2 : k ≤ 255) : Fn Tryz.prog TabD 4 [ex (.int .u8 k), ex (.int .i64 raw), aggP [ex (.int .i64 d), ex (.int .i64 c)], ex (.int .u8 dim), ex (.int .u8 sign), ex (.bool wild), ex (.bool made)] (ex (.bool true)) := by
  have P1 := fprime TabD k k1 k2
  have A := awake32
  refine fn_of_body Tryz.func4 rfl Tryz.ntmps4 rfl ?_
  intro w0 h0
  repeat (first | refine js ?_ | refine jb ?_)
  refine jr ?_
  refine jT (ru_boxR rfl rfl rfl) ?_
  refine ja rfl ?_
  refine RG.nil (by kernel_rfl) ?_
  repeat (first | refine js ?_ | refine jb ?_)
  refine jr ?_
  refine jm rfl ?_
  refine jS (ru_call P1 ⟨rfl, trivial⟩) ?_
  refine ja rfl ?_
  refine RG.nil (by kernel_rfl) ?_
  refine WpD.cut (α := Int) (fun p => ⟨[(3, .one (ex (.int .u8 dim))), (4, .one (ex (.int .u8 sign))), (6, .one (ex (.bool made))), (9, .ptr 9 0), (15, .one (ex (.int .i64 p)))], [(9, [ex (.int .i64 d), ex (.int .i64 c)])]⟩) ?_ ?_
  · cases wild with
    | true =>
      repeat (first | refine js ?_ | refine jb ?_)
      refine jr ?_
      refine jm rfl ?_
      refine RG.nil (by kernel_rfl) ?_
      repeat (first | refine js ?_ | refine jb ?_)
      refine WpD.condT rfl ?_
      repeat (first | refine js ?_ | refine jb ?_)
      refine jr ?_
      refine jm rfl ?_
      refine ja rfl ?_
      refine RG.nil (by kernel_rfl) ?_
      refine ⟨raw, ?_⟩
      refine Sub.mk ?_ ?_
      · repeat (first | exact trivial | refine jv rfl ?_ | refine jw rfl (js0 rfl) ?_ | refine jw rfl ⟨js0 rfl, js0 rfl⟩ ?_ | refine jx rfl ⟨js0 rfl, js0 rfl⟩ ?_ | refine jw rfl (clo_live (js0 rfl) (js0 rfl)) ?_ | refine ⟨⟨_, rfl, PLe.refl _⟩, trivial, ?_⟩)
      · repeat (first | exact trivial | refine jz ?_ | refine jy rfl ?_)
    | false =>
      repeat (first | refine js ?_ | refine jb ?_)
      refine jr ?_
      refine jm rfl ?_
      refine RG.nil (by kernel_rfl) ?_
      repeat (first | refine js ?_ | refine jb ?_)
      refine WpD.condF rfl ?_
      repeat (first | refine js ?_ | refine jb ?_)
      refine WpD.skip ?_
      refine ⟨pr20 (k % 20).toNat, ?_⟩
      refine Sub.mk ?_ ?_
      · repeat (first | exact trivial | refine jv rfl ?_ | refine jw rfl (js0 rfl) ?_ | refine jw rfl ⟨js0 rfl, js0 rfl⟩ ?_ | refine jx rfl ⟨js0 rfl, js0 rfl⟩ ?_ | refine jw rfl (clo_live (js0 rfl) (js0 rfl)) ?_ | refine ⟨⟨_, rfl, PLe.refl _⟩, trivial, ?_⟩)
      · repeat (first | exact trivial | refine jz ?_ | refine jy rfl ?_)
  intro p
  refine WpD.cut (α := Int × Int) (fun s => ⟨[(9, .ptr 9 0), (15, .one (ex (.int .i64 p)))], [(9, [ex (.int .i64 s.1), ex (.int .i64 s.2)])]⟩) ?_ ?_
  · cases made with
    | true =>
      repeat (first | refine js ?_ | refine jb ?_)
      refine jr ?_
      refine jm rfl ?_
      refine RG.nil (by kernel_rfl) ?_
      repeat (first | refine js ?_ | refine jb ?_)
      refine WpD.condT rfl ?_
      repeat (first | refine js ?_ | refine jb ?_)
      refine jr ?_
      refine jm rfl ?_
      refine jS (rt_conv rfl (fun w => run_convi w CInt.ok CInt.ok _ _)) ?_
      refine jS (rt_bin rfl rfl (fun w => run_remi w _ _ _ _ _ _ (by first | decide | omega | assumption))) ?_
      refine jm rfl ?_
      refine jS (rt_conv rfl (fun w => run_convi w CInt.ok CInt.ok _ _)) ?_
      refine jS (rt_bin rfl rfl (fun w => run_remi w _ _ _ _ _ _ (by first | decide | omega | assumption))) ?_
      refine jS (rt_bin rfl rfl (fun w => run_subi w _ _ _ _ _ _)) ?_
      refine jS (ru_build (ps := [(_, _), (_, _)]) ⟨rfl, Part.c rfl, rfl, Part.c rfl, trivial⟩ rfl) ?_
      refine jO (ru_storeR rfl rfl rfl rfl rfl rfl) ?_
      refine RG.nil (by kernel_rfl) ?_
      refine ⟨((IntKind.i64.wrap dim).tmod 12, IntKind.i64.wrap ((IntKind.i64.wrap sign).tmod 3 - 1)), ?_⟩
      refine Sub.mk ?_ ?_
      · repeat (first | exact trivial | refine jv rfl ?_ | refine jw rfl (js0 rfl) ?_ | refine jw rfl ⟨js0 rfl, js0 rfl⟩ ?_ | refine jx rfl ⟨js0 rfl, js0 rfl⟩ ?_ | refine jw rfl (clo_live (js0 rfl) (js0 rfl)) ?_ | refine ⟨⟨_, rfl, PLe.refl _⟩, trivial, ?_⟩)
      · repeat (first | exact trivial | refine jz ?_ | refine jy rfl ?_)
    | false =>
      repeat (first | refine js ?_ | refine jb ?_)
      refine jr ?_
      refine jm rfl ?_
      refine RG.nil (by kernel_rfl) ?_
      repeat (first | refine js ?_ | refine jb ?_)
      refine WpD.condF rfl ?_
      repeat (first | refine js ?_ | refine jb ?_)
      refine WpD.skip ?_
      refine ⟨(d, c), ?_⟩
      refine Sub.mk ?_ ?_
      · repeat (first | exact trivial | refine jv rfl ?_ | refine jw rfl (js0 rfl) ?_ | refine jw rfl ⟨js0 rfl, js0 rfl⟩ ?_ | refine jx rfl ⟨js0 rfl, js0 rfl⟩ ?_ | refine jw rfl (clo_live (js0 rfl) (js0 rfl)) ?_ | refine ⟨⟨_, rfl, PLe.refl _⟩, trivial, ?_⟩)
      · repeat (first | exact trivial | refine jz ?_ | refine jy rfl ?_)
  rintro ⟨x, y⟩
  dsimp only
  have C1 := (mDiagonal p x y).tab
  have C2 := rDiagonal TabD p x y
  unfold diaA at C1 C2
  by_cases hp : smP p = true
  · rw [if_pos hp] at C1 C2
    by_cases hs : psb x y = true
    · rw [if_pos hs] at C1 C2
      obtain ⟨p1, p2, _⟩ := smP_bd hp
      have hq := of_decide_eq_true hs
      have C3 := same_dia (p := p) (n := x.toNat) (c := y) p1 p2 (by omega) (by omega) (by omega)
      repeat (first | refine js ?_ | refine jb ?_)
      refine jr ?_
      refine jm rfl ?_
      refine jS (ru_loadR rfl rfl rfl rfl) ?_
      refine jS (ru_call C1 ⟨rfl, rfl, trivial⟩) ?_
      refine jm rfl ?_
      refine jS (rt_extract rfl rfl) ?_
      refine jS (rt_extract rfl rfl) ?_
      refine jT (ru_alloc rfl rfl rfl) ?_
      refine jO (ru_storeR rfl rfl rfl rfl rfl rfl) ?_
      refine ja rfl ?_
      refine RG.nil (by kernel_rfl) ?_
      repeat (first | refine js ?_ | refine jb ?_)
      refine jr ?_
      refine jm rfl ?_
      refine jS (ru_loadR rfl rfl rfl rfl) ?_
      refine jS (ru_call C2 ⟨rfl, rfl, trivial⟩) ?_
      refine jm rfl ?_
      refine jS (rt_extract rfl rfl) ?_
      refine jS (rt_extract rfl rfl) ?_
      refine jT (ru_alloc rfl rfl rfl) ?_
      refine jO (ru_storeR rfl rfl rfl rfl rfl rfl) ?_
      refine ja rfl ?_
      refine RG.nil (by kernel_rfl) ?_
      repeat (first | refine js ?_ | refine jb ?_)
      refine jr ?_
      refine jm rfl ?_
      refine jm rfl ?_
      refine jS (rt_bin_to rfl rfl (fun w => run_eqi w _ _ _ _ _ _) (vbool (beq_selfZ _))) ?_
      refine jm rfl ?_
      first | refine RG.S0 (LT.run rfl rfl rfl (ru_loadR rfl rfl rfl rfl)) ?_ | refine RG.S0 (LT.skip rfl rfl rfl) ?_
      first | refine RG.S0 (LT.run rfl rfl rfl (ru_loadR rfl rfl rfl rfl)) ?_ | refine RG.S0 (LT.skip rfl rfl rfl) ?_
      first | refine RG.S0 (LT.run rfl rfl rfl (ru_call C3 ⟨rfl, rfl, trivial⟩)) ?_ | refine RG.S0 (LT.skip rfl rfl rfl) ?_
      first | refine jS (rt_pick_true rfl rfl) ?_ | refine jS (rt_pick_false rfl rfl) ?_
      refine jm rfl ?_
      first | refine RG.S0 (LT.run rfl rfl rfl (ru_call A trivial)) ?_ | refine RG.S0 (LT.skip rfl rfl rfl) ?_
      first | refine jS (rt_pick_true rfl rfl) ?_ | refine jS (rt_pick_false rfl rfl) ?_
      refine ja rfl ?_
      refine RG.nil (by kernel_rfl) ?_
      repeat (first | refine js ?_ | refine jb ?_)
      refine WpD.ret ?_
      exact ret1 rfl (.tmp rfl) (PLe.refl _)
    · rw [if_neg hs] at C1 C2
      have C3 := qsame0 TabD
      repeat (first | refine js ?_ | refine jb ?_)
      refine jr ?_
      refine jm rfl ?_
      refine jS (ru_loadR rfl rfl rfl rfl) ?_
      refine jS (ru_call C1 ⟨rfl, rfl, trivial⟩) ?_
      refine jm rfl ?_
      refine jS (rt_extract rfl rfl) ?_
      refine jS (rt_extract rfl rfl) ?_
      refine jT (ru_alloc rfl rfl rfl) ?_
      refine jO (ru_storeR rfl rfl rfl rfl rfl rfl) ?_
      refine ja rfl ?_
      refine RG.nil (by kernel_rfl) ?_
      repeat (first | refine js ?_ | refine jb ?_)
      refine jr ?_
      refine jm rfl ?_
      refine jS (ru_loadR rfl rfl rfl rfl) ?_
      refine jS (ru_call C2 ⟨rfl, rfl, trivial⟩) ?_
      refine jm rfl ?_
      refine jS (rt_extract rfl rfl) ?_
      refine jS (rt_extract rfl rfl) ?_
      refine jT (ru_alloc rfl rfl rfl) ?_
      refine jO (ru_storeR rfl rfl rfl rfl rfl rfl) ?_
      refine ja rfl ?_
      refine RG.nil (by kernel_rfl) ?_
      repeat (first | refine js ?_ | refine jb ?_)
      refine jr ?_
      refine jm rfl ?_
      refine jm rfl ?_
      refine jS (rt_bin_to rfl rfl (fun w => run_eqi w _ _ _ _ _ _) (vbool (beq_selfZ _))) ?_
      refine jm rfl ?_
      first | refine RG.S0 (LT.run rfl rfl rfl (ru_loadR rfl rfl rfl rfl)) ?_ | refine RG.S0 (LT.skip rfl rfl rfl) ?_
      first | refine RG.S0 (LT.run rfl rfl rfl (ru_loadR rfl rfl rfl rfl)) ?_ | refine RG.S0 (LT.skip rfl rfl rfl) ?_
      first | refine RG.S0 (LT.run rfl rfl rfl (ru_call C3 ⟨rfl, rfl, trivial⟩)) ?_ | refine RG.S0 (LT.skip rfl rfl rfl) ?_
      first | refine jS (rt_pick_true rfl rfl) ?_ | refine jS (rt_pick_false rfl rfl) ?_
      refine jm rfl ?_
      first | refine RG.S0 (LT.run rfl rfl rfl (ru_call A trivial)) ?_ | refine RG.S0 (LT.skip rfl rfl rfl) ?_
      first | refine jS (rt_pick_true rfl rfl) ?_ | refine jS (rt_pick_false rfl rfl) ?_
      refine ja rfl ?_
      refine RG.nil (by kernel_rfl) ?_
      repeat (first | refine js ?_ | refine jb ?_)
      refine WpD.ret ?_
      exact ret1 rfl (.tmp rfl) (PLe.refl _)
  · rw [if_neg hp] at C1 C2
    have C3 := qsame0 TabD
    repeat (first | refine js ?_ | refine jb ?_)
    refine jr ?_
    refine jm rfl ?_
    refine jS (ru_loadR rfl rfl rfl rfl) ?_
    refine jS (ru_call C1 ⟨rfl, rfl, trivial⟩) ?_
    refine jm rfl ?_
    refine jS (rt_extract rfl rfl) ?_
    refine jS (rt_extract rfl rfl) ?_
    refine jT (ru_alloc rfl rfl rfl) ?_
    refine jO (ru_storeR rfl rfl rfl rfl rfl rfl) ?_
    refine ja rfl ?_
    refine RG.nil (by kernel_rfl) ?_
    repeat (first | refine js ?_ | refine jb ?_)
    refine jr ?_
    refine jm rfl ?_
    refine jS (ru_loadR rfl rfl rfl rfl) ?_
    refine jS (ru_call C2 ⟨rfl, rfl, trivial⟩) ?_
    refine jm rfl ?_
    refine jS (rt_extract rfl rfl) ?_
    refine jS (rt_extract rfl rfl) ?_
    refine jT (ru_alloc rfl rfl rfl) ?_
    refine jO (ru_storeR rfl rfl rfl rfl rfl rfl) ?_
    refine ja rfl ?_
    refine RG.nil (by kernel_rfl) ?_
    repeat (first | refine js ?_ | refine jb ?_)
    refine jr ?_
    refine jm rfl ?_
    refine jm rfl ?_
    refine jS (rt_bin_to rfl rfl (fun w => run_eqi w _ _ _ _ _ _) (vbool (beq_selfZ _))) ?_
    refine jm rfl ?_
    first | refine RG.S0 (LT.run rfl rfl rfl (ru_loadR rfl rfl rfl rfl)) ?_ | refine RG.S0 (LT.skip rfl rfl rfl) ?_
    first | refine RG.S0 (LT.run rfl rfl rfl (ru_loadR rfl rfl rfl rfl)) ?_ | refine RG.S0 (LT.skip rfl rfl rfl) ?_
    first | refine RG.S0 (LT.run rfl rfl rfl (ru_call C3 ⟨rfl, rfl, trivial⟩)) ?_ | refine RG.S0 (LT.skip rfl rfl rfl) ?_
    first | refine jS (rt_pick_true rfl rfl) ?_ | refine jS (rt_pick_false rfl rfl) ?_
    refine jm rfl ?_
    first | refine RG.S0 (LT.run rfl rfl rfl (ru_call A trivial)) ?_ | refine RG.S0 (LT.skip rfl rfl rfl) ?_
    first | refine jS (rt_pick_true rfl rfl) ?_ | refine jS (rt_pick_false rfl rfl) ?_
    refine ja rfl ?_
    refine RG.nil (by kernel_rfl) ?_
    repeat (first | refine js ?_ | refine jb ?_)
    refine WpD.ret ?_
    exact ret1 rfl (.tmp rfl) (PLe.refl _)
theorem od8_sm : ∀ j : Fin 8, smP (od8 j.1 : Int) = true := by decide +kernel
theorem mDiag_ok {p : Int} (n : Nat) (c : Int) (hp : smP p = true) (h : psb (n : Int) c = true) : Fn Tryz.prog TabD 11 [ex (.int .i64 p), aggP [ex (.int .i64 (n : Int)), ex (.int .i64 c)]] (tupP [qC (dia p n c), ex (.int .i64 0)]) := by
  have C1 := (mDiagonal p (n : Int) c).tab
  unfold diaA at C1
  rwa [if_pos hp, if_pos h, Int.toNat_natCast] at C1
theorem law_LocalmassDiagonal (k raw d c dim sign : Int) (wild made : Bool) (w : World) (wk : (Lit.int .u8 k).wf = true) (_ : (Lit.int .u8 dim).wf = true) (_ : (Lit.int .u8 sign).wf = true) (ht : TabD.e w) :
    Calls Tryz.prog 4 #[.int .u8 k, .int .i64 raw, .agg #[.int .i64 d, .int .i64 c], .int .u8 dim, .int .u8 sign, .bool wild, .bool made] w fun e w' => e = .returned (.bool true) ∧ Below w.heap.size w w' := by
  obtain ⟨k1, k2⟩ := bounds_u8 wk
  exact fn_true (ldiag k raw d c dim sign wild made (by omega) (by omega)) w ht ⟨rfl, rfl, ⟨[_, _], rfl, rfl, rfl, rfl, rfl, trivial⟩, rfl, rfl, rfl, rfl, trivial⟩
end Go.Proofs.YtpiflllcjgpkhaaGreatDoor

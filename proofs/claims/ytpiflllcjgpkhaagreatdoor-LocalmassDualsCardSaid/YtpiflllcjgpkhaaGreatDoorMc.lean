/- Symbols: species, cross term, types, mass. (With LT.skipU.) -/
import Derived.Test.YtpiflllcjgpkhaaGreatDoorMb
set_option maxRecDepth 3000
namespace Go.Proofs.YtpiflllcjgpkhaaGreatDoor
open Go.RowKit Limb Num
instance cbody63 : CBody Tryz.prog 63 := ⟨⟨_, Tryz.func63, rfl, by rfl⟩⟩
instance cbody36 : CBody Tryz.prog 36 := ⟨⟨_, Tryz.func36, rfl, by rfl⟩⟩
instance cbody31 : CBody Tryz.prog 31 := ⟨⟨_, Tryz.func31, rfl, by rfl⟩⟩
instance cbody32 : CBody Tryz.prog 32 := ⟨⟨_, Tryz.func32, rfl, by rfl⟩⟩
instance cbody15 : CBody Tryz.prog 15 := ⟨⟨_, Tryz.func15, rfl, by rfl⟩⟩
instance cbody56 : CBody Tryz.prog 56 := ⟨⟨_, Tryz.func56, rfl, by rfl⟩⟩
instance cbody111 : CBody Tryz.prog 111 := ⟨⟨_, Tryz.func111, rfl, by rfl⟩⟩
instance cbody112 : CBody Tryz.prog 112 := ⟨⟨_, Tryz.func112, rfl, by rfl⟩⟩
instance cbody85 : CBody Tryz.prog 85 := ⟨⟨_, Tryz.func85, rfl, by rfl⟩⟩
/-- A constituent. -/
structure Co where
  e : Int
  d : Int
  s : Int
  o : Bool
  y : Int
def coc (c : Co) : List Pd := [ex (.int .i64 c.e), ex (.int .i64 c.d), ex (.int .i64 c.s), ex (.bool c.o), ex (.int .i64 c.y)]
def ccs (f : Nat → Co) : Nat → List Pd := fun i => coc (f i)
theorem ccs_len (f : Nat → Co) (i : Nat) : (ccs f i).length = 5 := rfl
def locP (p : Int) (f : Nat → Co) (n : Nat) : Pd := aggP [ex (.int .i64 p), slc 5 (rows (ccs f) n) n]
/-! The table. -/
def mro (i : Nat) : Bool × Bool × Int × Int × Int := mrow.getD i (false, false, 0, 0, 0)
def mtc : Nat → List Pd := fun i => (mcells (mro i)).map ex
theorem mtab_rows : mtabV.toList.map ex = rows mtc 12 := rfl
theorem mtab_one : ∀ v ∈ mtabV.toList, v.oneCell' = true := by decide +kernel
theorem mtab_at (w : World) (h : TabD.e w) : w.rangeAt 0 0 mtabV.toList := by
  obtain ⟨_, t, fr, h⟩ := h
  intro j v hv
  rw [Nat.zero_add]
  simp only [World.cell?, h]
  simpa using hv
theorem mrow_bd : ∀ i : Fin 12, -2 ≤ (mro i.1).2.2.2.1 ∧ (mro i.1).2.2.2.1 ≤ 1 := by decide +kernel
/-- The row that fits. -/
def fits (o b : Bool) (k : Int) (m : Nat) : Prop := m < 12 ∧ (mro m).1 = o ∧ (mro m).2.1 = b ∧ (mro m).2.2.1 = k ∧ ∀ j, j < m → ¬ ((mro j).1 = o ∧ (mro j).2.1 = b ∧ (mro j).2.2.1 = k)
def rowS (d s : Int) (m : Nat) : Pd := aggP [ex (.int .i64 (d + (mro m).2.2.2.1)), ex (.int .i64 (if (mro m).2.2.2.2 = 2 then s else (mro m).2.2.2.2))]
set_option maxHeartbeats 1000000 in
theorem mdyadicE (ce d s y : Int) (bnd : Bool) (m : Nat) (hd1 : 0 ≤ d) (hd2 : d ≤ 100) (hf : fits false bnd 0 m) : Fn Tryz.prog TabD 63 [aggP (coc ⟨ce, d, s, false, y⟩), ex (.bool bnd)] (rowS d s m) := by
  obtain ⟨hm, ho, hb, hk, hno⟩ := hf
  unfold coc
  dsimp only
  refine fn_of_body Tryz.func63 rfl Tryz.ntmps63 rfl ?_
  intro w0 h0
  repeat (first | refine js ?_ | refine jb ?_)
  refine jr ?_
  refine jT (ru_boxR rfl rfl rfl) ?_
  refine jT (ru_alloc rfl rfl rfl) ?_
  refine RG.nil (by kernel_rfl) ?_
  repeat (first | refine js ?_ | refine jb ?_)
  refine jr ?_
  refine ja rfl ?_
  refine RG.nil (by kernel_rfl) ?_
  repeat (first | refine js ?_ | refine jb ?_)
  refine jr ?_
  refine jS (ru_fieldAddr rfl rfl) ?_
  refine jS (ru_load1 rfl rfl rfl) ?_
  refine jm rfl ?_
  first | refine RG.S0 (LT.run rfl rfl rfl (rt_move rfl)) ?_ | refine RG.S0 (LT.skip rfl rfl rfl) ?_ | refine RG.S0 (LT.skipU rfl rfl rfl) ?_
  first | refine jS (rt_pick_true rfl rfl) ?_ | refine jS (rt_pick_false rfl rfl) ?_
  refine ja rfl ?_
  refine RG.nil (by kernel_rfl) ?_
  repeat (first | refine js ?_ | refine jb ?_)
  refine WpD.condF rfl ?_
  repeat (first | refine js ?_ | refine jb ?_)
  refine jr ?_
  refine jS (ru_fieldAddr rfl rfl) ?_
  refine jS (ru_load1 rfl rfl rfl) ?_
  refine ja rfl ?_
  refine RG.nil (by kernel_rfl) ?_
  repeat (first | refine js ?_ | refine jb ?_)
  refine WpD.condF rfl ?_
  repeat (first | refine js ?_ | refine jb ?_)
  refine WpD.skip ?_
  repeat (first | refine js ?_ | refine jb ?_)
  refine jr ?_
  refine jS (rg_loadR (vs := mtabV.toList) rfl mtab_at rfl mtab_one) ?_
  refine jm rfl ?_
  refine RG.nil (by kernel_rfl) ?_
  repeat (first | refine js ?_ | refine jb ?_)
  rw [mtab_rows]
  refine WpD.loop (α := {i : Nat // i ≤ m}) (fun i => ⟨[(1, .one (ex (.bool bnd))), (2, .ptr 2 0), (4, .ptr 4 0), (5, .one (ex (.int .i64 0))), (29, .one (aggP (rows mtc 12))), (30, .one (ex (.int .i64 (i.1 : Int))))], [(2, [ex (.int .i64 ce), ex (.int .i64 d), ex (.int .i64 s), ex (.bool false), ex (.int .i64 y)]), (4, [ex (.int .i64 0), ex (.int .i64 0)])]⟩) (fun i => m - i.1) ⟨0, Nat.zero_le _⟩ ?_ ?_
  · refine Sub.mk ?_ ?_
    · repeat (first | exact trivial | refine jv rfl ?_ | refine jw rfl (js0 rfl) ?_ | refine jw rfl ⟨js0 rfl, js0 rfl⟩ ?_ | refine jx rfl ⟨js0 rfl, js0 rfl⟩ ?_ | refine jw rfl (clo_live (js0 rfl) (js0 rfl)) ?_ | refine ⟨⟨_, rfl, PLe.refl _⟩, trivial, ?_⟩)
    · repeat (first | exact trivial | refine jz ?_ | refine jy rfl ?_)
  rintro ⟨i, hi⟩
  dsimp only at hi ⊢
  have hq : ((rows mtc 12).drop (i * 5)).take 5 = mtc i := rows_get (f := mtc) (fun _ => rfl) (by omega)
  have hi12 : i < 12 := by omega
  have e1 : IntKind.i64.wrap ((i : Int) + 1) = ((i + 1 : Nat) : Int) := by rw [w64 (by omega) (by omega)]; rfl
  obtain ⟨hb1, hb2⟩ := mrow_bd ⟨i, hi12⟩
  dsimp only at hb1 hb2
  by_cases hlt : i < m
  · have hn := hno i hlt
    rw [show mtc i = [ex (.bool (mro i).1), ex (.bool (mro i).2.1), ex (.int .i64 (mro i).2.2.1), ex (.int .i64 (mro i).2.2.2.1), ex (.int .i64 (mro i).2.2.2.2)] from rfl] at hq
    generalize mro i = r at *
    obtain ⟨r0, r1, r2, r3, r4⟩ := r
    dsimp only at hn hq
    by_cases q0 : r0 = false
    · have v0 : (r0 == false) = true := by rw [q0]; rfl
      by_cases q1 : r1 = bnd
      · have v1 : (r1 == bnd) = true := by rw [q1]; exact beq_self_eq_true _
        have q2 : r2 ≠ 0 := fun h => hn ⟨q0, q1, h⟩
        repeat (first | refine js ?_ | refine jb ?_)
        refine jr ?_
        refine jS (rt_bin_to rfl rfl (fun w => run_lti w _ _ _ _ _ _) (vbool (decide_eq_true (by first | assumption | omega)))) ?_
        refine RG.nil (by kernel_rfl) ?_
        repeat (first | refine js ?_ | refine jb ?_)
        refine WpD.condT rfl ?_
        repeat (first | refine js ?_ | refine jb ?_)
        refine WpD.skip ?_
        repeat (first | refine js ?_ | refine jb ?_)
        refine jr ?_
        refine jS (rg_indexV rfl rfl hi12 hq) ?_
        refine jT (ru_alloc rfl rfl rfl) ?_
        refine jO (ru_storeR rfl rfl rfl rfl rfl rfl) ?_
        refine RG.nil (by kernel_rfl) ?_
        repeat (first | refine js ?_ | refine jb ?_)
        refine jr ?_
        refine jS (ru_fieldAddr rfl rfl) ?_
        refine jS (ru_load1 rfl rfl rfl) ?_
        refine jS (ru_fieldAddr rfl rfl) ?_
        refine jS (ru_load1 rfl rfl rfl) ?_
        refine jS (rt_bin_to rfl rfl (fun w => run_eqb w CBool.ok _ _ _ _) (vbool v0)) ?_
        refine jm rfl ?_
        first | refine RG.S0 (LT.run rfl rfl rfl (ru_fieldAddr rfl rfl)) ?_ | refine RG.S0 (LT.skip rfl rfl rfl) ?_ | refine RG.S0 (LT.skipU rfl rfl rfl) ?_
        first | refine RG.S0 (LT.run rfl rfl rfl (ru_load1 rfl rfl rfl)) ?_ | refine RG.S0 (LT.skip rfl rfl rfl) ?_ | refine RG.S0 (LT.skipU rfl rfl rfl) ?_
        first | refine RG.S0 (LT.run rfl rfl rfl (rt_move rfl)) ?_ | refine RG.S0 (LT.skip rfl rfl rfl) ?_ | refine RG.S0 (LT.skipU rfl rfl rfl) ?_
        first | refine RG.S0 (LT.run rfl rfl rfl (rt_bin_to rfl rfl (fun w => run_eqb w CBool.ok _ _ _ _) (vbool v1))) ?_ | refine RG.S0 (LT.skip rfl rfl rfl) ?_ | refine RG.S0 (LT.skipU rfl rfl rfl) ?_
        first | refine jS (rt_pick_true rfl rfl) ?_ | refine jS (rt_pick_false rfl rfl) ?_
        refine jm rfl ?_
        first | refine RG.S0 (LT.run rfl rfl rfl (ru_fieldAddr rfl rfl)) ?_ | refine RG.S0 (LT.skip rfl rfl rfl) ?_ | refine RG.S0 (LT.skipU rfl rfl rfl) ?_
        first | refine RG.S0 (LT.run rfl rfl rfl (ru_load1 rfl rfl rfl)) ?_ | refine RG.S0 (LT.skip rfl rfl rfl) ?_ | refine RG.S0 (LT.skipU rfl rfl rfl) ?_
        first | refine RG.S0 (LT.run rfl rfl rfl (rt_move rfl)) ?_ | refine RG.S0 (LT.skip rfl rfl rfl) ?_ | refine RG.S0 (LT.skipU rfl rfl rfl) ?_
        first | refine RG.S0 (LT.run rfl rfl rfl (rt_bin_to rfl rfl (fun w => run_eqi w _ _ _ _ _ _) (vbool (beqF (by first | assumption | omega))))) ?_ | refine RG.S0 (LT.skip rfl rfl rfl) ?_ | refine RG.S0 (LT.skipU rfl rfl rfl) ?_
        first | refine jS (rt_pick_true rfl rfl) ?_ | refine jS (rt_pick_false rfl rfl) ?_
        refine RG.nil (by kernel_rfl) ?_
        repeat (first | refine js ?_ | refine jb ?_)
        refine WpD.condF rfl ?_
        repeat (first | refine js ?_ | refine jb ?_)
        refine WpD.skip ?_
        repeat (first | refine js ?_ | refine jb ?_)
        refine jr ?_
        refine jS (rt_bin_to rfl rfl (fun w => run_addi w _ _ _ _ _ _) (vint e1)) ?_
        refine jm rfl ?_
        refine RG.nil (by kernel_rfl) ?_
        refine ⟨⟨i + 1, by omega⟩, ?_, by dsimp only; omega⟩
        refine Sub.mk ?_ ?_
        · repeat (first | exact trivial | refine jv rfl ?_ | refine jw rfl (js0 rfl) ?_ | refine jw rfl ⟨js0 rfl, js0 rfl⟩ ?_ | refine jx rfl ⟨js0 rfl, js0 rfl⟩ ?_ | refine jw rfl (clo_live (js0 rfl) (js0 rfl)) ?_ | refine ⟨⟨_, rfl, PLe.refl _⟩, trivial, ?_⟩)
        · repeat (first | exact trivial | refine jz ?_ | refine jy rfl ?_)
      · have v1 : (r1 == bnd) = false := by rw [beq_eq_false_iff_ne]; exact q1
        repeat (first | refine js ?_ | refine jb ?_)
        refine jr ?_
        refine jS (rt_bin_to rfl rfl (fun w => run_lti w _ _ _ _ _ _) (vbool (decide_eq_true (by first | assumption | omega)))) ?_
        refine RG.nil (by kernel_rfl) ?_
        repeat (first | refine js ?_ | refine jb ?_)
        refine WpD.condT rfl ?_
        repeat (first | refine js ?_ | refine jb ?_)
        refine WpD.skip ?_
        repeat (first | refine js ?_ | refine jb ?_)
        refine jr ?_
        refine jS (rg_indexV rfl rfl hi12 hq) ?_
        refine jT (ru_alloc rfl rfl rfl) ?_
        refine jO (ru_storeR rfl rfl rfl rfl rfl rfl) ?_
        refine RG.nil (by kernel_rfl) ?_
        repeat (first | refine js ?_ | refine jb ?_)
        refine jr ?_
        refine jS (ru_fieldAddr rfl rfl) ?_
        refine jS (ru_load1 rfl rfl rfl) ?_
        refine jS (ru_fieldAddr rfl rfl) ?_
        refine jS (ru_load1 rfl rfl rfl) ?_
        refine jS (rt_bin_to rfl rfl (fun w => run_eqb w CBool.ok _ _ _ _) (vbool v0)) ?_
        refine jm rfl ?_
        first | refine RG.S0 (LT.run rfl rfl rfl (ru_fieldAddr rfl rfl)) ?_ | refine RG.S0 (LT.skip rfl rfl rfl) ?_ | refine RG.S0 (LT.skipU rfl rfl rfl) ?_
        first | refine RG.S0 (LT.run rfl rfl rfl (ru_load1 rfl rfl rfl)) ?_ | refine RG.S0 (LT.skip rfl rfl rfl) ?_ | refine RG.S0 (LT.skipU rfl rfl rfl) ?_
        first | refine RG.S0 (LT.run rfl rfl rfl (rt_move rfl)) ?_ | refine RG.S0 (LT.skip rfl rfl rfl) ?_ | refine RG.S0 (LT.skipU rfl rfl rfl) ?_
        first | refine RG.S0 (LT.run rfl rfl rfl (rt_bin_to rfl rfl (fun w => run_eqb w CBool.ok _ _ _ _) (vbool v1))) ?_ | refine RG.S0 (LT.skip rfl rfl rfl) ?_ | refine RG.S0 (LT.skipU rfl rfl rfl) ?_
        first | refine jS (rt_pick_true rfl rfl) ?_ | refine jS (rt_pick_false rfl rfl) ?_
        refine jm rfl ?_
        first | refine RG.S0 (LT.run rfl rfl rfl (ru_fieldAddr rfl rfl)) ?_ | refine RG.S0 (LT.skip rfl rfl rfl) ?_ | refine RG.S0 (LT.skipU rfl rfl rfl) ?_
        first | refine RG.S0 (LT.run rfl rfl rfl (ru_load1 rfl rfl rfl)) ?_ | refine RG.S0 (LT.skip rfl rfl rfl) ?_ | refine RG.S0 (LT.skipU rfl rfl rfl) ?_
        first | refine RG.S0 (LT.run rfl rfl rfl (rt_move rfl)) ?_ | refine RG.S0 (LT.skip rfl rfl rfl) ?_ | refine RG.S0 (LT.skipU rfl rfl rfl) ?_
        first | refine RG.S0 (LT.run rfl rfl rfl (rt_bin_to rfl rfl (fun w => run_eqi w _ _ _ _ _ _) (vbool (beqF (by first | assumption | omega))))) ?_ | refine RG.S0 (LT.skip rfl rfl rfl) ?_ | refine RG.S0 (LT.skipU rfl rfl rfl) ?_
        first | refine jS (rt_pick_true rfl rfl) ?_ | refine jS (rt_pick_false rfl rfl) ?_
        refine RG.nil (by kernel_rfl) ?_
        repeat (first | refine js ?_ | refine jb ?_)
        refine WpD.condF rfl ?_
        repeat (first | refine js ?_ | refine jb ?_)
        refine WpD.skip ?_
        repeat (first | refine js ?_ | refine jb ?_)
        refine jr ?_
        refine jS (rt_bin_to rfl rfl (fun w => run_addi w _ _ _ _ _ _) (vint e1)) ?_
        refine jm rfl ?_
        refine RG.nil (by kernel_rfl) ?_
        refine ⟨⟨i + 1, by omega⟩, ?_, by dsimp only; omega⟩
        refine Sub.mk ?_ ?_
        · repeat (first | exact trivial | refine jv rfl ?_ | refine jw rfl (js0 rfl) ?_ | refine jw rfl ⟨js0 rfl, js0 rfl⟩ ?_ | refine jx rfl ⟨js0 rfl, js0 rfl⟩ ?_ | refine jw rfl (clo_live (js0 rfl) (js0 rfl)) ?_ | refine ⟨⟨_, rfl, PLe.refl _⟩, trivial, ?_⟩)
        · repeat (first | exact trivial | refine jz ?_ | refine jy rfl ?_)
    · have v0 : (r0 == false) = false := by rw [beq_eq_false_iff_ne]; exact q0
      repeat (first | refine js ?_ | refine jb ?_)
      refine jr ?_
      refine jS (rt_bin_to rfl rfl (fun w => run_lti w _ _ _ _ _ _) (vbool (decide_eq_true (by first | assumption | omega)))) ?_
      refine RG.nil (by kernel_rfl) ?_
      repeat (first | refine js ?_ | refine jb ?_)
      refine WpD.condT rfl ?_
      repeat (first | refine js ?_ | refine jb ?_)
      refine WpD.skip ?_
      repeat (first | refine js ?_ | refine jb ?_)
      refine jr ?_
      refine jS (rg_indexV rfl rfl hi12 hq) ?_
      refine jT (ru_alloc rfl rfl rfl) ?_
      refine jO (ru_storeR rfl rfl rfl rfl rfl rfl) ?_
      refine RG.nil (by kernel_rfl) ?_
      repeat (first | refine js ?_ | refine jb ?_)
      refine jr ?_
      refine jS (ru_fieldAddr rfl rfl) ?_
      refine jS (ru_load1 rfl rfl rfl) ?_
      refine jS (ru_fieldAddr rfl rfl) ?_
      refine jS (ru_load1 rfl rfl rfl) ?_
      refine jS (rt_bin_to rfl rfl (fun w => run_eqb w CBool.ok _ _ _ _) (vbool v0)) ?_
      refine jm rfl ?_
      first | refine RG.S0 (LT.run rfl rfl rfl (ru_fieldAddr rfl rfl)) ?_ | refine RG.S0 (LT.skip rfl rfl rfl) ?_ | refine RG.S0 (LT.skipU rfl rfl rfl) ?_
      first | refine RG.S0 (LT.run rfl rfl rfl (ru_load1 rfl rfl rfl)) ?_ | refine RG.S0 (LT.skip rfl rfl rfl) ?_ | refine RG.S0 (LT.skipU rfl rfl rfl) ?_
      first | refine RG.S0 (LT.run rfl rfl rfl (rt_move rfl)) ?_ | refine RG.S0 (LT.skip rfl rfl rfl) ?_ | refine RG.S0 (LT.skipU rfl rfl rfl) ?_
      first | refine RG.S0 (LT.run rfl rfl rfl (rt_bin rfl rfl (fun w => run_eqb w CBool.ok _ _ _ _))) ?_ | refine RG.S0 (LT.skip rfl rfl rfl) ?_ | refine RG.S0 (LT.skipU rfl rfl rfl) ?_
      first | refine jS (rt_pick_true rfl rfl) ?_ | refine jS (rt_pick_false rfl rfl) ?_
      refine jm rfl ?_
      first | refine RG.S0 (LT.run rfl rfl rfl (ru_fieldAddr rfl rfl)) ?_ | refine RG.S0 (LT.skip rfl rfl rfl) ?_ | refine RG.S0 (LT.skipU rfl rfl rfl) ?_
      first | refine RG.S0 (LT.run rfl rfl rfl (ru_load1 rfl rfl rfl)) ?_ | refine RG.S0 (LT.skip rfl rfl rfl) ?_ | refine RG.S0 (LT.skipU rfl rfl rfl) ?_
      first | refine RG.S0 (LT.run rfl rfl rfl (rt_move rfl)) ?_ | refine RG.S0 (LT.skip rfl rfl rfl) ?_ | refine RG.S0 (LT.skipU rfl rfl rfl) ?_
      first | refine RG.S0 (LT.run rfl rfl rfl (rt_bin_to rfl rfl (fun w => run_eqi w _ _ _ _ _ _) (vbool (beqF (by first | assumption | omega))))) ?_ | refine RG.S0 (LT.skip rfl rfl rfl) ?_ | refine RG.S0 (LT.skipU rfl rfl rfl) ?_
      first | refine jS (rt_pick_true rfl rfl) ?_ | refine jS (rt_pick_false rfl rfl) ?_
      refine RG.nil (by kernel_rfl) ?_
      repeat (first | refine js ?_ | refine jb ?_)
      refine WpD.condF rfl ?_
      repeat (first | refine js ?_ | refine jb ?_)
      refine WpD.skip ?_
      repeat (first | refine js ?_ | refine jb ?_)
      refine jr ?_
      refine jS (rt_bin_to rfl rfl (fun w => run_addi w _ _ _ _ _ _) (vint e1)) ?_
      refine jm rfl ?_
      refine RG.nil (by kernel_rfl) ?_
      refine ⟨⟨i + 1, by omega⟩, ?_, by dsimp only; omega⟩
      refine Sub.mk ?_ ?_
      · repeat (first | exact trivial | refine jv rfl ?_ | refine jw rfl (js0 rfl) ?_ | refine jw rfl ⟨js0 rfl, js0 rfl⟩ ?_ | refine jx rfl ⟨js0 rfl, js0 rfl⟩ ?_ | refine jw rfl (clo_live (js0 rfl) (js0 rfl)) ?_ | refine ⟨⟨_, rfl, PLe.refl _⟩, trivial, ?_⟩)
      · repeat (first | exact trivial | refine jz ?_ | refine jy rfl ?_)
  · have : i = m := by omega
    subst this
    rw [show mtc i = [ex (.bool (mro i).1), ex (.bool (mro i).2.1), ex (.int .i64 (mro i).2.2.1), ex (.int .i64 (mro i).2.2.2.1), ex (.int .i64 (mro i).2.2.2.2)] from rfl] at hq
    unfold rowS
    generalize mro i = r at *
    obtain ⟨r0, r1, r2, r3, r4⟩ := r
    dsimp only at hq ho hb hk hb1 hb2 ⊢
    have v0 : (r0 == false) = true := by rw [ho]; rfl
    have v1 : (r1 == bnd) = true := by rw [hb]; exact beq_self_eq_true _
    have e2 : IntKind.i64.wrap (d + r3) = d + r3 := w64 (by omega) (by omega)
    by_cases h2 : r4 = 2
    · rw [if_pos h2]
      repeat (first | refine js ?_ | refine jb ?_)
      refine jr ?_
      refine jS (rt_bin_to rfl rfl (fun w => run_lti w _ _ _ _ _ _) (vbool (decide_eq_true (by first | assumption | omega)))) ?_
      refine RG.nil (by kernel_rfl) ?_
      repeat (first | refine js ?_ | refine jb ?_)
      refine WpD.condT rfl ?_
      repeat (first | refine js ?_ | refine jb ?_)
      refine WpD.skip ?_
      repeat (first | refine js ?_ | refine jb ?_)
      refine jr ?_
      refine jS (rg_indexV rfl rfl hi12 hq) ?_
      refine jT (ru_alloc rfl rfl rfl) ?_
      refine jO (ru_storeR rfl rfl rfl rfl rfl rfl) ?_
      refine RG.nil (by kernel_rfl) ?_
      repeat (first | refine js ?_ | refine jb ?_)
      refine jr ?_
      refine jS (ru_fieldAddr rfl rfl) ?_
      refine jS (ru_load1 rfl rfl rfl) ?_
      refine jS (ru_fieldAddr rfl rfl) ?_
      refine jS (ru_load1 rfl rfl rfl) ?_
      refine jS (rt_bin_to rfl rfl (fun w => run_eqb w CBool.ok _ _ _ _) (vbool v0)) ?_
      refine jm rfl ?_
      first | refine RG.S0 (LT.run rfl rfl rfl (ru_fieldAddr rfl rfl)) ?_ | refine RG.S0 (LT.skip rfl rfl rfl) ?_ | refine RG.S0 (LT.skipU rfl rfl rfl) ?_
      first | refine RG.S0 (LT.run rfl rfl rfl (ru_load1 rfl rfl rfl)) ?_ | refine RG.S0 (LT.skip rfl rfl rfl) ?_ | refine RG.S0 (LT.skipU rfl rfl rfl) ?_
      first | refine RG.S0 (LT.run rfl rfl rfl (rt_move rfl)) ?_ | refine RG.S0 (LT.skip rfl rfl rfl) ?_ | refine RG.S0 (LT.skipU rfl rfl rfl) ?_
      first | refine RG.S0 (LT.run rfl rfl rfl (rt_bin_to rfl rfl (fun w => run_eqb w CBool.ok _ _ _ _) (vbool v1))) ?_ | refine RG.S0 (LT.skip rfl rfl rfl) ?_ | refine RG.S0 (LT.skipU rfl rfl rfl) ?_
      first | refine jS (rt_pick_true rfl rfl) ?_ | refine jS (rt_pick_false rfl rfl) ?_
      refine jm rfl ?_
      first | refine RG.S0 (LT.run rfl rfl rfl (ru_fieldAddr rfl rfl)) ?_ | refine RG.S0 (LT.skip rfl rfl rfl) ?_ | refine RG.S0 (LT.skipU rfl rfl rfl) ?_
      first | refine RG.S0 (LT.run rfl rfl rfl (ru_load1 rfl rfl rfl)) ?_ | refine RG.S0 (LT.skip rfl rfl rfl) ?_ | refine RG.S0 (LT.skipU rfl rfl rfl) ?_
      first | refine RG.S0 (LT.run rfl rfl rfl (rt_move rfl)) ?_ | refine RG.S0 (LT.skip rfl rfl rfl) ?_ | refine RG.S0 (LT.skipU rfl rfl rfl) ?_
      first | refine RG.S0 (LT.run rfl rfl rfl (rt_bin_to rfl rfl (fun w => run_eqi w _ _ _ _ _ _) (vbool (beqT (by first | assumption | omega))))) ?_ | refine RG.S0 (LT.skip rfl rfl rfl) ?_ | refine RG.S0 (LT.skipU rfl rfl rfl) ?_
      first | refine jS (rt_pick_true rfl rfl) ?_ | refine jS (rt_pick_false rfl rfl) ?_
      refine RG.nil (by kernel_rfl) ?_
      repeat (first | refine js ?_ | refine jb ?_)
      refine WpD.condT rfl ?_
      repeat (first | refine js ?_ | refine jb ?_)
      refine jr ?_
      refine jS (ru_fieldAddr rfl rfl) ?_
      refine jS (ru_load1 rfl rfl rfl) ?_
      refine jS (ru_fieldAddr rfl rfl) ?_
      refine jS (ru_load1 rfl rfl rfl) ?_
      refine jS (rt_bin_to rfl rfl (fun w => run_addi w _ _ _ _ _ _) (vint e2)) ?_
      refine jS (ru_fieldAddr rfl rfl) ?_
      refine jS (ru_load1 rfl rfl rfl) ?_
      refine jS (ru_build (ps := [(_, _), (_, _)]) ⟨rfl, Part.c rfl, rfl, Part.c rfl, trivial⟩ rfl) ?_
      refine jT (ru_alloc rfl rfl rfl) ?_
      refine jO (ru_storeR rfl rfl rfl rfl rfl rfl) ?_
      refine RG.nil (by kernel_rfl) ?_
      repeat (first | refine js ?_ | refine jb ?_)
      refine jr ?_
      refine jS (ru_fieldAddr rfl rfl) ?_
      refine jS (ru_load1 rfl rfl rfl) ?_
      refine jS (rt_bin_to rfl rfl (fun w => run_eqi w _ _ _ _ _ _) (vbool (beqT (by first | assumption | omega)))) ?_
      refine RG.nil (by kernel_rfl) ?_
      repeat (first | refine js ?_ | refine jb ?_)
      refine WpD.condT rfl ?_
      repeat (first | refine js ?_ | refine jb ?_)
      refine jr ?_
      refine jS (ru_fieldAddr rfl rfl) ?_
      refine jS (ru_load1 rfl rfl rfl) ?_
      refine jS (ru_fieldAddr rfl rfl) ?_
      refine jO (ru_store1 rfl rfl rfl rfl rfl) ?_
      refine RG.nil (by kernel_rfl) ?_
      repeat (first | refine js ?_ | refine jb ?_)
      refine jr ?_
      refine jS (ru_loadR rfl rfl rfl rfl) ?_
      refine jO (ru_storeR rfl rfl rfl rfl rfl rfl) ?_
      refine RG.nil (by kernel_rfl) ?_
      repeat (first | refine js ?_ | refine jb ?_)
      refine WpD.ret ?_
      exact ret1 rfl (.cell rfl rfl CRow.ok rfl) (PLe.refl _)
    · rw [if_neg h2]
      repeat (first | refine js ?_ | refine jb ?_)
      refine jr ?_
      refine jS (rt_bin_to rfl rfl (fun w => run_lti w _ _ _ _ _ _) (vbool (decide_eq_true (by first | assumption | omega)))) ?_
      refine RG.nil (by kernel_rfl) ?_
      repeat (first | refine js ?_ | refine jb ?_)
      refine WpD.condT rfl ?_
      repeat (first | refine js ?_ | refine jb ?_)
      refine WpD.skip ?_
      repeat (first | refine js ?_ | refine jb ?_)
      refine jr ?_
      refine jS (rg_indexV rfl rfl hi12 hq) ?_
      refine jT (ru_alloc rfl rfl rfl) ?_
      refine jO (ru_storeR rfl rfl rfl rfl rfl rfl) ?_
      refine RG.nil (by kernel_rfl) ?_
      repeat (first | refine js ?_ | refine jb ?_)
      refine jr ?_
      refine jS (ru_fieldAddr rfl rfl) ?_
      refine jS (ru_load1 rfl rfl rfl) ?_
      refine jS (ru_fieldAddr rfl rfl) ?_
      refine jS (ru_load1 rfl rfl rfl) ?_
      refine jS (rt_bin_to rfl rfl (fun w => run_eqb w CBool.ok _ _ _ _) (vbool v0)) ?_
      refine jm rfl ?_
      first | refine RG.S0 (LT.run rfl rfl rfl (ru_fieldAddr rfl rfl)) ?_ | refine RG.S0 (LT.skip rfl rfl rfl) ?_ | refine RG.S0 (LT.skipU rfl rfl rfl) ?_
      first | refine RG.S0 (LT.run rfl rfl rfl (ru_load1 rfl rfl rfl)) ?_ | refine RG.S0 (LT.skip rfl rfl rfl) ?_ | refine RG.S0 (LT.skipU rfl rfl rfl) ?_
      first | refine RG.S0 (LT.run rfl rfl rfl (rt_move rfl)) ?_ | refine RG.S0 (LT.skip rfl rfl rfl) ?_ | refine RG.S0 (LT.skipU rfl rfl rfl) ?_
      first | refine RG.S0 (LT.run rfl rfl rfl (rt_bin_to rfl rfl (fun w => run_eqb w CBool.ok _ _ _ _) (vbool v1))) ?_ | refine RG.S0 (LT.skip rfl rfl rfl) ?_ | refine RG.S0 (LT.skipU rfl rfl rfl) ?_
      first | refine jS (rt_pick_true rfl rfl) ?_ | refine jS (rt_pick_false rfl rfl) ?_
      refine jm rfl ?_
      first | refine RG.S0 (LT.run rfl rfl rfl (ru_fieldAddr rfl rfl)) ?_ | refine RG.S0 (LT.skip rfl rfl rfl) ?_ | refine RG.S0 (LT.skipU rfl rfl rfl) ?_
      first | refine RG.S0 (LT.run rfl rfl rfl (ru_load1 rfl rfl rfl)) ?_ | refine RG.S0 (LT.skip rfl rfl rfl) ?_ | refine RG.S0 (LT.skipU rfl rfl rfl) ?_
      first | refine RG.S0 (LT.run rfl rfl rfl (rt_move rfl)) ?_ | refine RG.S0 (LT.skip rfl rfl rfl) ?_ | refine RG.S0 (LT.skipU rfl rfl rfl) ?_
      first | refine RG.S0 (LT.run rfl rfl rfl (rt_bin_to rfl rfl (fun w => run_eqi w _ _ _ _ _ _) (vbool (beqT (by first | assumption | omega))))) ?_ | refine RG.S0 (LT.skip rfl rfl rfl) ?_ | refine RG.S0 (LT.skipU rfl rfl rfl) ?_
      first | refine jS (rt_pick_true rfl rfl) ?_ | refine jS (rt_pick_false rfl rfl) ?_
      refine RG.nil (by kernel_rfl) ?_
      repeat (first | refine js ?_ | refine jb ?_)
      refine WpD.condT rfl ?_
      repeat (first | refine js ?_ | refine jb ?_)
      refine jr ?_
      refine jS (ru_fieldAddr rfl rfl) ?_
      refine jS (ru_load1 rfl rfl rfl) ?_
      refine jS (ru_fieldAddr rfl rfl) ?_
      refine jS (ru_load1 rfl rfl rfl) ?_
      refine jS (rt_bin_to rfl rfl (fun w => run_addi w _ _ _ _ _ _) (vint e2)) ?_
      refine jS (ru_fieldAddr rfl rfl) ?_
      refine jS (ru_load1 rfl rfl rfl) ?_
      refine jS (ru_build (ps := [(_, _), (_, _)]) ⟨rfl, Part.c rfl, rfl, Part.c rfl, trivial⟩ rfl) ?_
      refine jT (ru_alloc rfl rfl rfl) ?_
      refine jO (ru_storeR rfl rfl rfl rfl rfl rfl) ?_
      refine RG.nil (by kernel_rfl) ?_
      repeat (first | refine js ?_ | refine jb ?_)
      refine jr ?_
      refine jS (ru_fieldAddr rfl rfl) ?_
      refine jS (ru_load1 rfl rfl rfl) ?_
      refine jS (rt_bin_to rfl rfl (fun w => run_eqi w _ _ _ _ _ _) (vbool (beqF (by first | assumption | omega)))) ?_
      refine RG.nil (by kernel_rfl) ?_
      repeat (first | refine js ?_ | refine jb ?_)
      refine WpD.condF rfl ?_
      repeat (first | refine js ?_ | refine jb ?_)
      refine WpD.skip ?_
      repeat (first | refine js ?_ | refine jb ?_)
      refine jr ?_
      refine jS (ru_loadR rfl rfl rfl rfl) ?_
      refine jO (ru_storeR rfl rfl rfl rfl rfl rfl) ?_
      refine RG.nil (by kernel_rfl) ?_
      repeat (first | refine js ?_ | refine jb ?_)
      refine WpD.ret ?_
      exact ret1 rfl (.cell rfl rfl CRow.ok rfl) (PLe.refl _)
set_option maxHeartbeats 1000000 in
theorem mdyadicO (ce d s key : Int) (m : Nat) (hd1 : 0 ≤ d) (hd2 : d ≤ 100) (hs : s ≠ -1) (hf : fits true false key m) : Fn Tryz.prog TabD 63 [aggP (coc ⟨ce, d, s, true, key⟩), ex (.bool false)] (rowS d s m) := by
  obtain ⟨hm, ho, hb, hk, hno⟩ := hf
  unfold coc
  dsimp only
  refine fn_of_body Tryz.func63 rfl Tryz.ntmps63 rfl ?_
  intro w0 h0
  repeat (first | refine js ?_ | refine jb ?_)
  refine jr ?_
  refine jT (ru_boxR rfl rfl rfl) ?_
  refine jT (ru_alloc rfl rfl rfl) ?_
  refine RG.nil (by kernel_rfl) ?_
  repeat (first | refine js ?_ | refine jb ?_)
  refine jr ?_
  refine ja rfl ?_
  refine RG.nil (by kernel_rfl) ?_
  repeat (first | refine js ?_ | refine jb ?_)
  refine jr ?_
  refine jS (ru_fieldAddr rfl rfl) ?_
  refine jS (ru_load1 rfl rfl rfl) ?_
  refine jm rfl ?_
  first | refine RG.S0 (LT.run rfl rfl rfl (rt_move rfl)) ?_ | refine RG.S0 (LT.skip rfl rfl rfl) ?_ | refine RG.S0 (LT.skipU rfl rfl rfl) ?_
  first | refine jS (rt_pick_true rfl rfl) ?_ | refine jS (rt_pick_false rfl rfl) ?_
  refine ja rfl ?_
  refine RG.nil (by kernel_rfl) ?_
  repeat (first | refine js ?_ | refine jb ?_)
  refine WpD.condF rfl ?_
  repeat (first | refine js ?_ | refine jb ?_)
  refine jr ?_
  refine jS (ru_fieldAddr rfl rfl) ?_
  refine jS (ru_load1 rfl rfl rfl) ?_
  refine ja rfl ?_
  refine RG.nil (by kernel_rfl) ?_
  repeat (first | refine js ?_ | refine jb ?_)
  refine WpD.condT rfl ?_
  repeat (first | refine js ?_ | refine jb ?_)
  refine jr ?_
  refine jS (ru_fieldAddr rfl rfl) ?_
  refine jS (ru_load1 rfl rfl rfl) ?_
  refine ja rfl ?_
  refine RG.nil (by kernel_rfl) ?_
  repeat (first | refine js ?_ | refine jb ?_)
  refine jr ?_
  refine jS (ru_fieldAddr rfl rfl) ?_
  refine jS (ru_load1 rfl rfl rfl) ?_
  refine jS (rt_bin_to rfl rfl (fun w => run_eqi w _ _ _ _ _ _) (vbool (beqF (by first | assumption | omega)))) ?_
  refine RG.nil (by kernel_rfl) ?_
  repeat (first | refine js ?_ | refine jb ?_)
  refine WpD.condF rfl ?_
  repeat (first | refine js ?_ | refine jb ?_)
  refine WpD.skip ?_
  repeat (first | refine js ?_ | refine jb ?_)
  refine jr ?_
  refine jS (rg_loadR (vs := mtabV.toList) rfl mtab_at rfl mtab_one) ?_
  refine jm rfl ?_
  refine RG.nil (by kernel_rfl) ?_
  repeat (first | refine js ?_ | refine jb ?_)
  rw [mtab_rows]
  refine WpD.loop (α := {i : Nat // i ≤ m}) (fun i => ⟨[(1, .one (ex (.bool false))), (2, .ptr 2 0), (4, .ptr 4 0), (5, .one (ex (.int .i64 key))), (29, .one (aggP (rows mtc 12))), (30, .one (ex (.int .i64 (i.1 : Int))))], [(2, [ex (.int .i64 ce), ex (.int .i64 d), ex (.int .i64 s), ex (.bool true), ex (.int .i64 key)]), (4, [ex (.int .i64 0), ex (.int .i64 0)])]⟩) (fun i => m - i.1) ⟨0, Nat.zero_le _⟩ ?_ ?_
  · refine Sub.mk ?_ ?_
    · repeat (first | exact trivial | refine jv rfl ?_ | refine jw rfl (js0 rfl) ?_ | refine jw rfl ⟨js0 rfl, js0 rfl⟩ ?_ | refine jx rfl ⟨js0 rfl, js0 rfl⟩ ?_ | refine jw rfl (clo_live (js0 rfl) (js0 rfl)) ?_ | refine ⟨⟨_, rfl, PLe.refl _⟩, trivial, ?_⟩)
    · repeat (first | exact trivial | refine jz ?_ | refine jy rfl ?_)
  rintro ⟨i, hi⟩
  dsimp only at hi ⊢
  have hq : ((rows mtc 12).drop (i * 5)).take 5 = mtc i := rows_get (f := mtc) (fun _ => rfl) (by omega)
  have hi12 : i < 12 := by omega
  have e1 : IntKind.i64.wrap ((i : Int) + 1) = ((i + 1 : Nat) : Int) := by rw [w64 (by omega) (by omega)]; rfl
  obtain ⟨hb1, hb2⟩ := mrow_bd ⟨i, hi12⟩
  dsimp only at hb1 hb2
  by_cases hlt : i < m
  · have hn := hno i hlt
    rw [show mtc i = [ex (.bool (mro i).1), ex (.bool (mro i).2.1), ex (.int .i64 (mro i).2.2.1), ex (.int .i64 (mro i).2.2.2.1), ex (.int .i64 (mro i).2.2.2.2)] from rfl] at hq
    generalize mro i = r at *
    obtain ⟨r0, r1, r2, r3, r4⟩ := r
    dsimp only at hn hq
    by_cases q0 : r0 = true
    · have v0 : (r0 == true) = true := by rw [q0]; rfl
      by_cases q1 : r1 = false
      · have v1 : (r1 == false) = true := by rw [q1]; exact beq_self_eq_true _
        have q2 : r2 ≠ key := fun h => hn ⟨q0, q1, h⟩
        repeat (first | refine js ?_ | refine jb ?_)
        refine jr ?_
        refine jS (rt_bin_to rfl rfl (fun w => run_lti w _ _ _ _ _ _) (vbool (decide_eq_true (by first | assumption | omega)))) ?_
        refine RG.nil (by kernel_rfl) ?_
        repeat (first | refine js ?_ | refine jb ?_)
        refine WpD.condT rfl ?_
        repeat (first | refine js ?_ | refine jb ?_)
        refine WpD.skip ?_
        repeat (first | refine js ?_ | refine jb ?_)
        refine jr ?_
        refine jS (rg_indexV rfl rfl hi12 hq) ?_
        refine jT (ru_alloc rfl rfl rfl) ?_
        refine jO (ru_storeR rfl rfl rfl rfl rfl rfl) ?_
        refine RG.nil (by kernel_rfl) ?_
        repeat (first | refine js ?_ | refine jb ?_)
        refine jr ?_
        refine jS (ru_fieldAddr rfl rfl) ?_
        refine jS (ru_load1 rfl rfl rfl) ?_
        refine jS (ru_fieldAddr rfl rfl) ?_
        refine jS (ru_load1 rfl rfl rfl) ?_
        refine jS (rt_bin_to rfl rfl (fun w => run_eqb w CBool.ok _ _ _ _) (vbool v0)) ?_
        refine jm rfl ?_
        first | refine RG.S0 (LT.run rfl rfl rfl (ru_fieldAddr rfl rfl)) ?_ | refine RG.S0 (LT.skip rfl rfl rfl) ?_ | refine RG.S0 (LT.skipU rfl rfl rfl) ?_
        first | refine RG.S0 (LT.run rfl rfl rfl (ru_load1 rfl rfl rfl)) ?_ | refine RG.S0 (LT.skip rfl rfl rfl) ?_ | refine RG.S0 (LT.skipU rfl rfl rfl) ?_
        first | refine RG.S0 (LT.run rfl rfl rfl (rt_move rfl)) ?_ | refine RG.S0 (LT.skip rfl rfl rfl) ?_ | refine RG.S0 (LT.skipU rfl rfl rfl) ?_
        first | refine RG.S0 (LT.run rfl rfl rfl (rt_bin_to rfl rfl (fun w => run_eqb w CBool.ok _ _ _ _) (vbool v1))) ?_ | refine RG.S0 (LT.skip rfl rfl rfl) ?_ | refine RG.S0 (LT.skipU rfl rfl rfl) ?_
        first | refine jS (rt_pick_true rfl rfl) ?_ | refine jS (rt_pick_false rfl rfl) ?_
        refine jm rfl ?_
        first | refine RG.S0 (LT.run rfl rfl rfl (ru_fieldAddr rfl rfl)) ?_ | refine RG.S0 (LT.skip rfl rfl rfl) ?_ | refine RG.S0 (LT.skipU rfl rfl rfl) ?_
        first | refine RG.S0 (LT.run rfl rfl rfl (ru_load1 rfl rfl rfl)) ?_ | refine RG.S0 (LT.skip rfl rfl rfl) ?_ | refine RG.S0 (LT.skipU rfl rfl rfl) ?_
        first | refine RG.S0 (LT.run rfl rfl rfl (rt_move rfl)) ?_ | refine RG.S0 (LT.skip rfl rfl rfl) ?_ | refine RG.S0 (LT.skipU rfl rfl rfl) ?_
        first | refine RG.S0 (LT.run rfl rfl rfl (rt_bin_to rfl rfl (fun w => run_eqi w _ _ _ _ _ _) (vbool (beqF (by first | assumption | omega))))) ?_ | refine RG.S0 (LT.skip rfl rfl rfl) ?_ | refine RG.S0 (LT.skipU rfl rfl rfl) ?_
        first | refine jS (rt_pick_true rfl rfl) ?_ | refine jS (rt_pick_false rfl rfl) ?_
        refine RG.nil (by kernel_rfl) ?_
        repeat (first | refine js ?_ | refine jb ?_)
        refine WpD.condF rfl ?_
        repeat (first | refine js ?_ | refine jb ?_)
        refine WpD.skip ?_
        repeat (first | refine js ?_ | refine jb ?_)
        refine jr ?_
        refine jS (rt_bin_to rfl rfl (fun w => run_addi w _ _ _ _ _ _) (vint e1)) ?_
        refine jm rfl ?_
        refine RG.nil (by kernel_rfl) ?_
        refine ⟨⟨i + 1, by omega⟩, ?_, by dsimp only; omega⟩
        refine Sub.mk ?_ ?_
        · repeat (first | exact trivial | refine jv rfl ?_ | refine jw rfl (js0 rfl) ?_ | refine jw rfl ⟨js0 rfl, js0 rfl⟩ ?_ | refine jx rfl ⟨js0 rfl, js0 rfl⟩ ?_ | refine jw rfl (clo_live (js0 rfl) (js0 rfl)) ?_ | refine ⟨⟨_, rfl, PLe.refl _⟩, trivial, ?_⟩)
        · repeat (first | exact trivial | refine jz ?_ | refine jy rfl ?_)
      · have v1 : (r1 == false) = false := by rw [beq_eq_false_iff_ne]; exact q1
        repeat (first | refine js ?_ | refine jb ?_)
        refine jr ?_
        refine jS (rt_bin_to rfl rfl (fun w => run_lti w _ _ _ _ _ _) (vbool (decide_eq_true (by first | assumption | omega)))) ?_
        refine RG.nil (by kernel_rfl) ?_
        repeat (first | refine js ?_ | refine jb ?_)
        refine WpD.condT rfl ?_
        repeat (first | refine js ?_ | refine jb ?_)
        refine WpD.skip ?_
        repeat (first | refine js ?_ | refine jb ?_)
        refine jr ?_
        refine jS (rg_indexV rfl rfl hi12 hq) ?_
        refine jT (ru_alloc rfl rfl rfl) ?_
        refine jO (ru_storeR rfl rfl rfl rfl rfl rfl) ?_
        refine RG.nil (by kernel_rfl) ?_
        repeat (first | refine js ?_ | refine jb ?_)
        refine jr ?_
        refine jS (ru_fieldAddr rfl rfl) ?_
        refine jS (ru_load1 rfl rfl rfl) ?_
        refine jS (ru_fieldAddr rfl rfl) ?_
        refine jS (ru_load1 rfl rfl rfl) ?_
        refine jS (rt_bin_to rfl rfl (fun w => run_eqb w CBool.ok _ _ _ _) (vbool v0)) ?_
        refine jm rfl ?_
        first | refine RG.S0 (LT.run rfl rfl rfl (ru_fieldAddr rfl rfl)) ?_ | refine RG.S0 (LT.skip rfl rfl rfl) ?_ | refine RG.S0 (LT.skipU rfl rfl rfl) ?_
        first | refine RG.S0 (LT.run rfl rfl rfl (ru_load1 rfl rfl rfl)) ?_ | refine RG.S0 (LT.skip rfl rfl rfl) ?_ | refine RG.S0 (LT.skipU rfl rfl rfl) ?_
        first | refine RG.S0 (LT.run rfl rfl rfl (rt_move rfl)) ?_ | refine RG.S0 (LT.skip rfl rfl rfl) ?_ | refine RG.S0 (LT.skipU rfl rfl rfl) ?_
        first | refine RG.S0 (LT.run rfl rfl rfl (rt_bin_to rfl rfl (fun w => run_eqb w CBool.ok _ _ _ _) (vbool v1))) ?_ | refine RG.S0 (LT.skip rfl rfl rfl) ?_ | refine RG.S0 (LT.skipU rfl rfl rfl) ?_
        first | refine jS (rt_pick_true rfl rfl) ?_ | refine jS (rt_pick_false rfl rfl) ?_
        refine jm rfl ?_
        first | refine RG.S0 (LT.run rfl rfl rfl (ru_fieldAddr rfl rfl)) ?_ | refine RG.S0 (LT.skip rfl rfl rfl) ?_ | refine RG.S0 (LT.skipU rfl rfl rfl) ?_
        first | refine RG.S0 (LT.run rfl rfl rfl (ru_load1 rfl rfl rfl)) ?_ | refine RG.S0 (LT.skip rfl rfl rfl) ?_ | refine RG.S0 (LT.skipU rfl rfl rfl) ?_
        first | refine RG.S0 (LT.run rfl rfl rfl (rt_move rfl)) ?_ | refine RG.S0 (LT.skip rfl rfl rfl) ?_ | refine RG.S0 (LT.skipU rfl rfl rfl) ?_
        first | refine RG.S0 (LT.run rfl rfl rfl (rt_bin_to rfl rfl (fun w => run_eqi w _ _ _ _ _ _) (vbool (beqF (by first | assumption | omega))))) ?_ | refine RG.S0 (LT.skip rfl rfl rfl) ?_ | refine RG.S0 (LT.skipU rfl rfl rfl) ?_
        first | refine jS (rt_pick_true rfl rfl) ?_ | refine jS (rt_pick_false rfl rfl) ?_
        refine RG.nil (by kernel_rfl) ?_
        repeat (first | refine js ?_ | refine jb ?_)
        refine WpD.condF rfl ?_
        repeat (first | refine js ?_ | refine jb ?_)
        refine WpD.skip ?_
        repeat (first | refine js ?_ | refine jb ?_)
        refine jr ?_
        refine jS (rt_bin_to rfl rfl (fun w => run_addi w _ _ _ _ _ _) (vint e1)) ?_
        refine jm rfl ?_
        refine RG.nil (by kernel_rfl) ?_
        refine ⟨⟨i + 1, by omega⟩, ?_, by dsimp only; omega⟩
        refine Sub.mk ?_ ?_
        · repeat (first | exact trivial | refine jv rfl ?_ | refine jw rfl (js0 rfl) ?_ | refine jw rfl ⟨js0 rfl, js0 rfl⟩ ?_ | refine jx rfl ⟨js0 rfl, js0 rfl⟩ ?_ | refine jw rfl (clo_live (js0 rfl) (js0 rfl)) ?_ | refine ⟨⟨_, rfl, PLe.refl _⟩, trivial, ?_⟩)
        · repeat (first | exact trivial | refine jz ?_ | refine jy rfl ?_)
    · have v0 : (r0 == true) = false := by rw [beq_eq_false_iff_ne]; exact q0
      repeat (first | refine js ?_ | refine jb ?_)
      refine jr ?_
      refine jS (rt_bin_to rfl rfl (fun w => run_lti w _ _ _ _ _ _) (vbool (decide_eq_true (by first | assumption | omega)))) ?_
      refine RG.nil (by kernel_rfl) ?_
      repeat (first | refine js ?_ | refine jb ?_)
      refine WpD.condT rfl ?_
      repeat (first | refine js ?_ | refine jb ?_)
      refine WpD.skip ?_
      repeat (first | refine js ?_ | refine jb ?_)
      refine jr ?_
      refine jS (rg_indexV rfl rfl hi12 hq) ?_
      refine jT (ru_alloc rfl rfl rfl) ?_
      refine jO (ru_storeR rfl rfl rfl rfl rfl rfl) ?_
      refine RG.nil (by kernel_rfl) ?_
      repeat (first | refine js ?_ | refine jb ?_)
      refine jr ?_
      refine jS (ru_fieldAddr rfl rfl) ?_
      refine jS (ru_load1 rfl rfl rfl) ?_
      refine jS (ru_fieldAddr rfl rfl) ?_
      refine jS (ru_load1 rfl rfl rfl) ?_
      refine jS (rt_bin_to rfl rfl (fun w => run_eqb w CBool.ok _ _ _ _) (vbool v0)) ?_
      refine jm rfl ?_
      first | refine RG.S0 (LT.run rfl rfl rfl (ru_fieldAddr rfl rfl)) ?_ | refine RG.S0 (LT.skip rfl rfl rfl) ?_ | refine RG.S0 (LT.skipU rfl rfl rfl) ?_
      first | refine RG.S0 (LT.run rfl rfl rfl (ru_load1 rfl rfl rfl)) ?_ | refine RG.S0 (LT.skip rfl rfl rfl) ?_ | refine RG.S0 (LT.skipU rfl rfl rfl) ?_
      first | refine RG.S0 (LT.run rfl rfl rfl (rt_move rfl)) ?_ | refine RG.S0 (LT.skip rfl rfl rfl) ?_ | refine RG.S0 (LT.skipU rfl rfl rfl) ?_
      first | refine RG.S0 (LT.run rfl rfl rfl (rt_bin rfl rfl (fun w => run_eqb w CBool.ok _ _ _ _))) ?_ | refine RG.S0 (LT.skip rfl rfl rfl) ?_ | refine RG.S0 (LT.skipU rfl rfl rfl) ?_
      first | refine jS (rt_pick_true rfl rfl) ?_ | refine jS (rt_pick_false rfl rfl) ?_
      refine jm rfl ?_
      first | refine RG.S0 (LT.run rfl rfl rfl (ru_fieldAddr rfl rfl)) ?_ | refine RG.S0 (LT.skip rfl rfl rfl) ?_ | refine RG.S0 (LT.skipU rfl rfl rfl) ?_
      first | refine RG.S0 (LT.run rfl rfl rfl (ru_load1 rfl rfl rfl)) ?_ | refine RG.S0 (LT.skip rfl rfl rfl) ?_ | refine RG.S0 (LT.skipU rfl rfl rfl) ?_
      first | refine RG.S0 (LT.run rfl rfl rfl (rt_move rfl)) ?_ | refine RG.S0 (LT.skip rfl rfl rfl) ?_ | refine RG.S0 (LT.skipU rfl rfl rfl) ?_
      first | refine RG.S0 (LT.run rfl rfl rfl (rt_bin_to rfl rfl (fun w => run_eqi w _ _ _ _ _ _) (vbool (beqF (by first | assumption | omega))))) ?_ | refine RG.S0 (LT.skip rfl rfl rfl) ?_ | refine RG.S0 (LT.skipU rfl rfl rfl) ?_
      first | refine jS (rt_pick_true rfl rfl) ?_ | refine jS (rt_pick_false rfl rfl) ?_
      refine RG.nil (by kernel_rfl) ?_
      repeat (first | refine js ?_ | refine jb ?_)
      refine WpD.condF rfl ?_
      repeat (first | refine js ?_ | refine jb ?_)
      refine WpD.skip ?_
      repeat (first | refine js ?_ | refine jb ?_)
      refine jr ?_
      refine jS (rt_bin_to rfl rfl (fun w => run_addi w _ _ _ _ _ _) (vint e1)) ?_
      refine jm rfl ?_
      refine RG.nil (by kernel_rfl) ?_
      refine ⟨⟨i + 1, by omega⟩, ?_, by dsimp only; omega⟩
      refine Sub.mk ?_ ?_
      · repeat (first | exact trivial | refine jv rfl ?_ | refine jw rfl (js0 rfl) ?_ | refine jw rfl ⟨js0 rfl, js0 rfl⟩ ?_ | refine jx rfl ⟨js0 rfl, js0 rfl⟩ ?_ | refine jw rfl (clo_live (js0 rfl) (js0 rfl)) ?_ | refine ⟨⟨_, rfl, PLe.refl _⟩, trivial, ?_⟩)
      · repeat (first | exact trivial | refine jz ?_ | refine jy rfl ?_)
  · have : i = m := by omega
    subst this
    rw [show mtc i = [ex (.bool (mro i).1), ex (.bool (mro i).2.1), ex (.int .i64 (mro i).2.2.1), ex (.int .i64 (mro i).2.2.2.1), ex (.int .i64 (mro i).2.2.2.2)] from rfl] at hq
    unfold rowS
    generalize mro i = r at *
    obtain ⟨r0, r1, r2, r3, r4⟩ := r
    dsimp only at hq ho hb hk hb1 hb2 ⊢
    have v0 : (r0 == true) = true := by rw [ho]; rfl
    have v1 : (r1 == false) = true := by rw [hb]; exact beq_self_eq_true _
    have e2 : IntKind.i64.wrap (d + r3) = d + r3 := w64 (by omega) (by omega)
    by_cases h2 : r4 = 2
    · rw [if_pos h2]
      repeat (first | refine js ?_ | refine jb ?_)
      refine jr ?_
      refine jS (rt_bin_to rfl rfl (fun w => run_lti w _ _ _ _ _ _) (vbool (decide_eq_true (by first | assumption | omega)))) ?_
      refine RG.nil (by kernel_rfl) ?_
      repeat (first | refine js ?_ | refine jb ?_)
      refine WpD.condT rfl ?_
      repeat (first | refine js ?_ | refine jb ?_)
      refine WpD.skip ?_
      repeat (first | refine js ?_ | refine jb ?_)
      refine jr ?_
      refine jS (rg_indexV rfl rfl hi12 hq) ?_
      refine jT (ru_alloc rfl rfl rfl) ?_
      refine jO (ru_storeR rfl rfl rfl rfl rfl rfl) ?_
      refine RG.nil (by kernel_rfl) ?_
      repeat (first | refine js ?_ | refine jb ?_)
      refine jr ?_
      refine jS (ru_fieldAddr rfl rfl) ?_
      refine jS (ru_load1 rfl rfl rfl) ?_
      refine jS (ru_fieldAddr rfl rfl) ?_
      refine jS (ru_load1 rfl rfl rfl) ?_
      refine jS (rt_bin_to rfl rfl (fun w => run_eqb w CBool.ok _ _ _ _) (vbool v0)) ?_
      refine jm rfl ?_
      first | refine RG.S0 (LT.run rfl rfl rfl (ru_fieldAddr rfl rfl)) ?_ | refine RG.S0 (LT.skip rfl rfl rfl) ?_ | refine RG.S0 (LT.skipU rfl rfl rfl) ?_
      first | refine RG.S0 (LT.run rfl rfl rfl (ru_load1 rfl rfl rfl)) ?_ | refine RG.S0 (LT.skip rfl rfl rfl) ?_ | refine RG.S0 (LT.skipU rfl rfl rfl) ?_
      first | refine RG.S0 (LT.run rfl rfl rfl (rt_move rfl)) ?_ | refine RG.S0 (LT.skip rfl rfl rfl) ?_ | refine RG.S0 (LT.skipU rfl rfl rfl) ?_
      first | refine RG.S0 (LT.run rfl rfl rfl (rt_bin_to rfl rfl (fun w => run_eqb w CBool.ok _ _ _ _) (vbool v1))) ?_ | refine RG.S0 (LT.skip rfl rfl rfl) ?_ | refine RG.S0 (LT.skipU rfl rfl rfl) ?_
      first | refine jS (rt_pick_true rfl rfl) ?_ | refine jS (rt_pick_false rfl rfl) ?_
      refine jm rfl ?_
      first | refine RG.S0 (LT.run rfl rfl rfl (ru_fieldAddr rfl rfl)) ?_ | refine RG.S0 (LT.skip rfl rfl rfl) ?_ | refine RG.S0 (LT.skipU rfl rfl rfl) ?_
      first | refine RG.S0 (LT.run rfl rfl rfl (ru_load1 rfl rfl rfl)) ?_ | refine RG.S0 (LT.skip rfl rfl rfl) ?_ | refine RG.S0 (LT.skipU rfl rfl rfl) ?_
      first | refine RG.S0 (LT.run rfl rfl rfl (rt_move rfl)) ?_ | refine RG.S0 (LT.skip rfl rfl rfl) ?_ | refine RG.S0 (LT.skipU rfl rfl rfl) ?_
      first | refine RG.S0 (LT.run rfl rfl rfl (rt_bin_to rfl rfl (fun w => run_eqi w _ _ _ _ _ _) (vbool (beqT (by first | assumption | omega))))) ?_ | refine RG.S0 (LT.skip rfl rfl rfl) ?_ | refine RG.S0 (LT.skipU rfl rfl rfl) ?_
      first | refine jS (rt_pick_true rfl rfl) ?_ | refine jS (rt_pick_false rfl rfl) ?_
      refine RG.nil (by kernel_rfl) ?_
      repeat (first | refine js ?_ | refine jb ?_)
      refine WpD.condT rfl ?_
      repeat (first | refine js ?_ | refine jb ?_)
      refine jr ?_
      refine jS (ru_fieldAddr rfl rfl) ?_
      refine jS (ru_load1 rfl rfl rfl) ?_
      refine jS (ru_fieldAddr rfl rfl) ?_
      refine jS (ru_load1 rfl rfl rfl) ?_
      refine jS (rt_bin_to rfl rfl (fun w => run_addi w _ _ _ _ _ _) (vint e2)) ?_
      refine jS (ru_fieldAddr rfl rfl) ?_
      refine jS (ru_load1 rfl rfl rfl) ?_
      refine jS (ru_build (ps := [(_, _), (_, _)]) ⟨rfl, Part.c rfl, rfl, Part.c rfl, trivial⟩ rfl) ?_
      refine jT (ru_alloc rfl rfl rfl) ?_
      refine jO (ru_storeR rfl rfl rfl rfl rfl rfl) ?_
      refine RG.nil (by kernel_rfl) ?_
      repeat (first | refine js ?_ | refine jb ?_)
      refine jr ?_
      refine jS (ru_fieldAddr rfl rfl) ?_
      refine jS (ru_load1 rfl rfl rfl) ?_
      refine jS (rt_bin_to rfl rfl (fun w => run_eqi w _ _ _ _ _ _) (vbool (beqT (by first | assumption | omega)))) ?_
      refine RG.nil (by kernel_rfl) ?_
      repeat (first | refine js ?_ | refine jb ?_)
      refine WpD.condT rfl ?_
      repeat (first | refine js ?_ | refine jb ?_)
      refine jr ?_
      refine jS (ru_fieldAddr rfl rfl) ?_
      refine jS (ru_load1 rfl rfl rfl) ?_
      refine jS (ru_fieldAddr rfl rfl) ?_
      refine jO (ru_store1 rfl rfl rfl rfl rfl) ?_
      refine RG.nil (by kernel_rfl) ?_
      repeat (first | refine js ?_ | refine jb ?_)
      refine jr ?_
      refine jS (ru_loadR rfl rfl rfl rfl) ?_
      refine jO (ru_storeR rfl rfl rfl rfl rfl rfl) ?_
      refine RG.nil (by kernel_rfl) ?_
      repeat (first | refine js ?_ | refine jb ?_)
      refine WpD.ret ?_
      exact ret1 rfl (.cell rfl rfl CRow.ok rfl) (PLe.refl _)
    · rw [if_neg h2]
      repeat (first | refine js ?_ | refine jb ?_)
      refine jr ?_
      refine jS (rt_bin_to rfl rfl (fun w => run_lti w _ _ _ _ _ _) (vbool (decide_eq_true (by first | assumption | omega)))) ?_
      refine RG.nil (by kernel_rfl) ?_
      repeat (first | refine js ?_ | refine jb ?_)
      refine WpD.condT rfl ?_
      repeat (first | refine js ?_ | refine jb ?_)
      refine WpD.skip ?_
      repeat (first | refine js ?_ | refine jb ?_)
      refine jr ?_
      refine jS (rg_indexV rfl rfl hi12 hq) ?_
      refine jT (ru_alloc rfl rfl rfl) ?_
      refine jO (ru_storeR rfl rfl rfl rfl rfl rfl) ?_
      refine RG.nil (by kernel_rfl) ?_
      repeat (first | refine js ?_ | refine jb ?_)
      refine jr ?_
      refine jS (ru_fieldAddr rfl rfl) ?_
      refine jS (ru_load1 rfl rfl rfl) ?_
      refine jS (ru_fieldAddr rfl rfl) ?_
      refine jS (ru_load1 rfl rfl rfl) ?_
      refine jS (rt_bin_to rfl rfl (fun w => run_eqb w CBool.ok _ _ _ _) (vbool v0)) ?_
      refine jm rfl ?_
      first | refine RG.S0 (LT.run rfl rfl rfl (ru_fieldAddr rfl rfl)) ?_ | refine RG.S0 (LT.skip rfl rfl rfl) ?_ | refine RG.S0 (LT.skipU rfl rfl rfl) ?_
      first | refine RG.S0 (LT.run rfl rfl rfl (ru_load1 rfl rfl rfl)) ?_ | refine RG.S0 (LT.skip rfl rfl rfl) ?_ | refine RG.S0 (LT.skipU rfl rfl rfl) ?_
      first | refine RG.S0 (LT.run rfl rfl rfl (rt_move rfl)) ?_ | refine RG.S0 (LT.skip rfl rfl rfl) ?_ | refine RG.S0 (LT.skipU rfl rfl rfl) ?_
      first | refine RG.S0 (LT.run rfl rfl rfl (rt_bin_to rfl rfl (fun w => run_eqb w CBool.ok _ _ _ _) (vbool v1))) ?_ | refine RG.S0 (LT.skip rfl rfl rfl) ?_ | refine RG.S0 (LT.skipU rfl rfl rfl) ?_
      first | refine jS (rt_pick_true rfl rfl) ?_ | refine jS (rt_pick_false rfl rfl) ?_
      refine jm rfl ?_
      first | refine RG.S0 (LT.run rfl rfl rfl (ru_fieldAddr rfl rfl)) ?_ | refine RG.S0 (LT.skip rfl rfl rfl) ?_ | refine RG.S0 (LT.skipU rfl rfl rfl) ?_
      first | refine RG.S0 (LT.run rfl rfl rfl (ru_load1 rfl rfl rfl)) ?_ | refine RG.S0 (LT.skip rfl rfl rfl) ?_ | refine RG.S0 (LT.skipU rfl rfl rfl) ?_
      first | refine RG.S0 (LT.run rfl rfl rfl (rt_move rfl)) ?_ | refine RG.S0 (LT.skip rfl rfl rfl) ?_ | refine RG.S0 (LT.skipU rfl rfl rfl) ?_
      first | refine RG.S0 (LT.run rfl rfl rfl (rt_bin_to rfl rfl (fun w => run_eqi w _ _ _ _ _ _) (vbool (beqT (by first | assumption | omega))))) ?_ | refine RG.S0 (LT.skip rfl rfl rfl) ?_ | refine RG.S0 (LT.skipU rfl rfl rfl) ?_
      first | refine jS (rt_pick_true rfl rfl) ?_ | refine jS (rt_pick_false rfl rfl) ?_
      refine RG.nil (by kernel_rfl) ?_
      repeat (first | refine js ?_ | refine jb ?_)
      refine WpD.condT rfl ?_
      repeat (first | refine js ?_ | refine jb ?_)
      refine jr ?_
      refine jS (ru_fieldAddr rfl rfl) ?_
      refine jS (ru_load1 rfl rfl rfl) ?_
      refine jS (ru_fieldAddr rfl rfl) ?_
      refine jS (ru_load1 rfl rfl rfl) ?_
      refine jS (rt_bin_to rfl rfl (fun w => run_addi w _ _ _ _ _ _) (vint e2)) ?_
      refine jS (ru_fieldAddr rfl rfl) ?_
      refine jS (ru_load1 rfl rfl rfl) ?_
      refine jS (ru_build (ps := [(_, _), (_, _)]) ⟨rfl, Part.c rfl, rfl, Part.c rfl, trivial⟩ rfl) ?_
      refine jT (ru_alloc rfl rfl rfl) ?_
      refine jO (ru_storeR rfl rfl rfl rfl rfl rfl) ?_
      refine RG.nil (by kernel_rfl) ?_
      repeat (first | refine js ?_ | refine jb ?_)
      refine jr ?_
      refine jS (ru_fieldAddr rfl rfl) ?_
      refine jS (ru_load1 rfl rfl rfl) ?_
      refine jS (rt_bin_to rfl rfl (fun w => run_eqi w _ _ _ _ _ _) (vbool (beqF (by first | assumption | omega)))) ?_
      refine RG.nil (by kernel_rfl) ?_
      repeat (first | refine js ?_ | refine jb ?_)
      refine WpD.condF rfl ?_
      repeat (first | refine js ?_ | refine jb ?_)
      refine WpD.skip ?_
      repeat (first | refine js ?_ | refine jb ?_)
      refine jr ?_
      refine jS (ru_loadR rfl rfl rfl rfl) ?_
      refine jO (ru_storeR rfl rfl rfl rfl rfl rfl) ?_
      refine RG.nil (by kernel_rfl) ?_
      repeat (first | refine js ?_ | refine jb ?_)
      refine WpD.ret ?_
      exact ret1 rfl (.cell rfl rfl CRow.ok rfl) (PLe.refl _)
end Go.Proofs.YtpiflllcjgpkhaaGreatDoor

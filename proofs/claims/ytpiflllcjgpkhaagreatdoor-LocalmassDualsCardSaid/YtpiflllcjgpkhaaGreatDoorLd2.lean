/- Symbols at odd primes: what is valid; the mass. (With LT.skipU.) -/
import Derived.Test.YtpiflllcjgpkhaaGreatDoorMdo
import Derived.Test.YtpiflllcjgpkhaaGreatDoorMf
import Derived.Test.YtpiflllcjgpkhaaGreatDoorQ
import Derived.Test.YtpiflllcjgpkhaaGreatDoorMx
import Derived.OpenShut
import Derived.ChangeSlices
import Derived.ChangeSame
import Derived.WalkKit
import Derived.ProofKit
set_option maxRecDepth 3000
namespace Go.Proofs.YtpiflllcjgpkhaaGreatDoor
open Go.RowKit Limb Num
instance cbody55 : CBody Tryz.prog 55 := ⟨⟨_, Tryz.func55, rfl, by rfl⟩⟩
instance cbody30 : CBody Tryz.prog 30 := ⟨⟨_, Tryz.func30, rfl, by rfl⟩⟩
instance cbody54 : CBody Tryz.prog 54 := ⟨⟨_, Tryz.func54, rfl, by rfl⟩⟩
instance cbody87 : CBody Tryz.prog 87 := ⟨⟨_, Tryz.func87, rfl, by rfl⟩⟩
def dsm (f : Nat → Co) : Nat → Int
  | 0 => 0
  | i + 1 => dsm f i + (f i).d
/-- A symbol for an odd prime. -/
structure OddL (f : Nat → Co) (n : Nat) : Prop extends OkL f n where
  e6 : ∀ i, i < n → (f i).e ≤ 60
  sg : ∀ i, i < n → (f i).s = 1 ∨ (f i).s = -1
  od : ∀ i, i < n → (f i).o = false
  oy : ∀ i, i < n → (f i).y = 0
  sm : dsm f n ≤ 8
theorem dsm_bd {f : Nat → Co} {n : Nat} (H : OddL f n) : ∀ {i : Nat}, i ≤ n → (i : Int) ≤ dsm f i
  | 0, _ => by simp [dsm]
  | i + 1, h => by
    have := dsm_bd H (i := i) (by omega)
    have := H.d0 i (by omega)
    rw [dsm]
    omega
theorem dsm_le {f : Nat → Co} {n : Nat} (H : OddL f n) : ∀ (j : Nat) {i : Nat}, i + j = n → dsm f i ≤ dsm f n
  | 0, i, h => by rw [show i = n by omega]; exact Int.le_refl _
  | j + 1, i, h => by
    have := dsm_le H j (i := i + 1) (by omega)
    have := H.d0 i (by omega)
    have h2 : dsm f (i + 1) = dsm f i + (f i).d := rfl
    omega
theorem dsm_room {f : Nat → Co} {n i : Nat} (H : OddL f n) (h : i < n) : 0 ≤ dsm f i ∧ dsm f i + (f i).d ≤ 8 := by
  have h1 := dsm_bd H (i := i) (by omega)
  have h2 := dsm_le H (n - (i + 1)) (i := i + 1) (by omega)
  have h3 := H.sm
  have h4 : dsm f (i + 1) = dsm f i + (f i).d := rfl
  omega
theorem co_lit {f : Nat → Co} {n i : Nat} (H : OddL f n) (h : i < n) : coc (f i) = [ex (.int .i64 (f i).e), ex (.int .i64 (f i).d), ex (.int .i64 (f i).s), ex (.bool false), ex (.int .i64 0)] := by
  unfold coc
  rw [H.od i h, H.oy i h]
section
variable (En : Ev)
set_option maxHeartbeats 1000000 in
theorem rorder (f : Nat → Co) (n : Nat) (H : OddL f n) : Fn Tryz.prog En 55 [slc 5 (rows (ccs f) n) n] (ex (.bool true)) := by
  have hn8 := H.n8
  have hn1 := H.n1
  refine fn_of_body Tryz.func55 rfl Tryz.ntmps55 rfl ?_
  intro w0 h0
  repeat (first | refine js ?_ | refine jb ?_)
  refine jr ?_
  refine ja rfl ?_
  refine RG.nil (by kernel_rfl) ?_
  repeat (first | refine js ?_ | refine jb ?_)
  refine jr ?_
  refine ja rfl ?_
  refine RG.nil (by kernel_rfl) ?_
  repeat (first | refine js ?_ | refine jb ?_)
  refine jr ?_
  refine jm rfl ?_
  refine jS (ru_len rfl CSlice.ok) ?_
  refine jm rfl ?_
  refine RG.nil (by kernel_rfl) ?_
  repeat (first | refine js ?_ | refine jb ?_)
  refine WpD.loop (α := {i : Nat // i ≤ n}) (fun i => ⟨[(0, .one (slc 5 (rows (ccs f) n) n)), (3, .one (ex (.int .i64 (dsm f i.1)))), (6, .one (slc 5 (rows (ccs f) n) n)), (7, .one (ex (.int .i64 (n : Int)))), (8, .one (ex (.int .i64 (i.1 : Int))))], []⟩) (fun i => n - i.1) ⟨0, Nat.zero_le _⟩ ?_ ?_
  · refine Sub.mk ?_ ?_
    · repeat (first | exact trivial | refine jv rfl ?_ | refine jw rfl (js0 rfl) ?_ | refine jw rfl ⟨js0 rfl, js0 rfl⟩ ?_ | refine jx rfl ⟨js0 rfl, js0 rfl⟩ ?_ | refine jw rfl (clo_live (js0 rfl) (js0 rfl)) ?_ | refine ⟨⟨_, rfl, PLe.refl _⟩, trivial, ?_⟩)
    · repeat (first | exact trivial | refine jz ?_ | refine jy rfl ?_)
  rintro ⟨i, hi⟩
  dsimp only at hi ⊢
  by_cases hlt : i < n
  · have hq : ((rows (ccs f) n).drop (i * 5)).take 5 = coc (f i) := rows_get (ccs_len f) hlt
    rw [co_lit H hlt] at hq
    have w1 : IntKind.i64.wrap ((i : Int) + 1) = ((i + 1 : Nat) : Int) := by rw [w64 (by omega) (by omega)]; rfl
    obtain ⟨m1, m2⟩ := dsm_room H hlt
    have g1 := H.e0 i hlt
    have g2 := H.e6 i hlt
    have g3 := H.d0 i hlt
    have g4 := H.d8 i hlt
    have w2 : IntKind.i64.wrap (8 - dsm f i) = 8 - dsm f i := w64 (by omega) (by omega)
    have w3 : IntKind.i64.wrap (dsm f i + (f i).d) = dsm f (i + 1) := w64 (by omega) (by omega)
    by_cases h0i : i = 0
    · have h0i' : (i : Int) = 0 := by omega
      rcases H.sg i hlt with hs | hs
      · repeat (first | refine js ?_ | refine jb ?_)
        refine jr ?_
        refine jS (rt_bin_to rfl rfl (fun w => run_lti w _ _ _ _ _ _) (vbool (decide_eq_true (by first | assumption | omega)))) ?_
        refine RG.nil (by kernel_rfl) ?_
        repeat (first | refine js ?_ | refine jb ?_)
        refine WpD.condT rfl ?_
        repeat (first | refine js ?_ | refine jb ?_)
        refine WpD.skip ?_
        repeat (first | refine js ?_ | refine jb ?_)
        refine jr ?_
        refine jm rfl ?_
        refine jS (rc_indexS rfl rfl hlt hq) ?_
        refine jS (rc_loadR rfl rfl rfl) ?_
        refine jT (ru_alloc rfl rfl rfl) ?_
        refine ja rfl ?_
        refine jO (ru_storeR rfl rfl rfl rfl rfl rfl) ?_
        refine RG.nil (by kernel_rfl) ?_
        repeat (first | refine js ?_ | refine jb ?_)
        refine jr ?_
        refine jS (ru_fieldAddr rfl rfl) ?_
        refine jS (ru_load1 rfl rfl rfl) ?_
        refine jS (rt_bin_to rfl rfl (fun w => run_lti w _ _ _ _ _ _) (vbool (decide_eq_false (by first | assumption | omega)))) ?_
        refine jm rfl ?_
        refine RG.S0 (LT.run rfl rfl rfl (ru_fieldAddr rfl rfl)) ?_
        refine RG.S0 (LT.run rfl rfl rfl (ru_load1 rfl rfl rfl)) ?_
        refine RG.S0 (LT.run rfl rfl rfl (rt_bin_to rfl rfl (fun w => run_gti w _ _ _ _ _ _) (vbool (decide_eq_false (by first | assumption | omega))))) ?_
        refine jS (rt_pick_false rfl rfl) ?_
        refine jm rfl ?_
        refine RG.S0 (LT.run rfl rfl rfl (rt_move rfl)) ?_
        refine RG.S0 (LT.run rfl rfl rfl (rt_bin_to rfl rfl (fun w => run_gti w _ _ _ _ _ _) (vbool (decide_eq_false (by first | assumption | omega))))) ?_
        refine RG.S0 (LT.run rfl rfl rfl (rt_move rfl)) ?_
        refine RG.S0 (LT.skip rfl rfl rfl) ?_
        refine RG.S0 (LT.skip rfl rfl rfl) ?_
        refine RG.S0 (LT.skip rfl rfl rfl) ?_
        refine RG.S0 (LT.skip rfl rfl rfl) ?_
        refine RG.S0 (LT.skip rfl rfl rfl) ?_
        refine RG.S0 (LT.skip rfl rfl rfl) ?_
        refine RG.S0 (LT.skip rfl rfl rfl) ?_
        refine RG.S0 (LT.skip rfl rfl rfl) ?_
        refine RG.S0 (LT.skip rfl rfl rfl) ?_
        refine RG.S0 (LT.run rfl rfl rfl (rt_pick_false rfl rfl)) ?_
        refine jS (rt_pick_false rfl rfl) ?_
        refine jm rfl ?_
        refine RG.S0 (LT.run rfl rfl rfl (ru_fieldAddr rfl rfl)) ?_
        refine RG.S0 (LT.run rfl rfl rfl (ru_load1 rfl rfl rfl)) ?_
        refine RG.S0 (LT.run rfl rfl rfl (rt_bin_to rfl rfl (fun w => run_nei w _ _ _ _ _ _) (vbool (bneF (by first | assumption | omega))))) ?_
        refine RG.S0 (LT.run rfl rfl rfl (rt_move rfl)) ?_
        refine RG.S0 (LT.skip rfl rfl rfl) ?_
        refine RG.S0 (LT.skip rfl rfl rfl) ?_
        refine RG.S0 (LT.skip rfl rfl rfl) ?_
        refine RG.S0 (LT.run rfl rfl rfl (rt_pick_false rfl rfl)) ?_
        refine jS (rt_pick_false rfl rfl) ?_
        refine jm rfl ?_
        refine RG.S0 (LT.run rfl rfl rfl (ru_fieldAddr rfl rfl)) ?_
        refine RG.S0 (LT.run rfl rfl rfl (ru_load1 rfl rfl rfl)) ?_
        refine RG.S0 (LT.run rfl rfl rfl (rt_bin_to rfl rfl (fun w => run_lti w _ _ _ _ _ _) (vbool (decide_eq_false (by first | assumption | omega))))) ?_
        refine jS (rt_pick_false rfl rfl) ?_
        refine jm rfl ?_
        refine RG.S0 (LT.run rfl rfl rfl (ru_fieldAddr rfl rfl)) ?_
        refine RG.S0 (LT.run rfl rfl rfl (ru_load1 rfl rfl rfl)) ?_
        refine RG.S0 (LT.run rfl rfl rfl (rt_move rfl)) ?_
        refine RG.S0 (LT.run rfl rfl rfl (rt_bin_to rfl rfl (fun w => run_subi w _ _ _ _ _ _) (vint w2))) ?_
        refine RG.S0 (LT.run rfl rfl rfl (rt_bin_to rfl rfl (fun w => run_gti w _ _ _ _ _ _) (vbool (decide_eq_false (by first | assumption | omega))))) ?_
        refine jS (rt_pick_false rfl rfl) ?_
        refine RG.nil (by kernel_rfl) ?_
        repeat (first | refine js ?_ | refine jb ?_)
        refine WpD.condF rfl ?_
        repeat (first | refine js ?_ | refine jb ?_)
        refine WpD.skip ?_
        repeat (first | refine js ?_ | refine jb ?_)
        refine jr ?_
        refine jm rfl ?_
        refine jS (ru_fieldAddr rfl rfl) ?_
        refine jS (ru_load1 rfl rfl rfl) ?_
        refine jS (rt_bin_to rfl rfl (fun w => run_addi w _ _ _ _ _ _) (vint w3)) ?_
        refine ja rfl ?_
        refine RG.nil (by kernel_rfl) ?_
        repeat (first | refine js ?_ | refine jb ?_)
        refine jr ?_
        refine jS (rt_bin_to rfl rfl (fun w => run_addi w _ _ _ _ _ _) (vint w1)) ?_
        refine jm rfl ?_
        refine RG.nil (by kernel_rfl) ?_
        refine ⟨⟨i + 1, by omega⟩, ?_, by dsimp only; omega⟩
        refine Sub.mk ?_ ?_
        · repeat (first | exact trivial | refine jv rfl ?_ | refine jw rfl (js0 rfl) ?_ | refine jw rfl ⟨js0 rfl, js0 rfl⟩ ?_ | refine jx rfl ⟨js0 rfl, js0 rfl⟩ ?_ | refine jw rfl (clo_live (js0 rfl) (js0 rfl)) ?_ | refine ⟨⟨_, rfl, PLe.refl _⟩, trivial, ?_⟩)
        · repeat (first | exact trivial | refine jz ?_ | refine jy rfl ?_)
      · repeat (first | refine js ?_ | refine jb ?_)
        refine jr ?_
        refine jS (rt_bin_to rfl rfl (fun w => run_lti w _ _ _ _ _ _) (vbool (decide_eq_true (by first | assumption | omega)))) ?_
        refine RG.nil (by kernel_rfl) ?_
        repeat (first | refine js ?_ | refine jb ?_)
        refine WpD.condT rfl ?_
        repeat (first | refine js ?_ | refine jb ?_)
        refine WpD.skip ?_
        repeat (first | refine js ?_ | refine jb ?_)
        refine jr ?_
        refine jm rfl ?_
        refine jS (rc_indexS rfl rfl hlt hq) ?_
        refine jS (rc_loadR rfl rfl rfl) ?_
        refine jT (ru_alloc rfl rfl rfl) ?_
        refine ja rfl ?_
        refine jO (ru_storeR rfl rfl rfl rfl rfl rfl) ?_
        refine RG.nil (by kernel_rfl) ?_
        repeat (first | refine js ?_ | refine jb ?_)
        refine jr ?_
        refine jS (ru_fieldAddr rfl rfl) ?_
        refine jS (ru_load1 rfl rfl rfl) ?_
        refine jS (rt_bin_to rfl rfl (fun w => run_lti w _ _ _ _ _ _) (vbool (decide_eq_false (by first | assumption | omega)))) ?_
        refine jm rfl ?_
        refine RG.S0 (LT.run rfl rfl rfl (ru_fieldAddr rfl rfl)) ?_
        refine RG.S0 (LT.run rfl rfl rfl (ru_load1 rfl rfl rfl)) ?_
        refine RG.S0 (LT.run rfl rfl rfl (rt_bin_to rfl rfl (fun w => run_gti w _ _ _ _ _ _) (vbool (decide_eq_false (by first | assumption | omega))))) ?_
        refine jS (rt_pick_false rfl rfl) ?_
        refine jm rfl ?_
        refine RG.S0 (LT.run rfl rfl rfl (rt_move rfl)) ?_
        refine RG.S0 (LT.run rfl rfl rfl (rt_bin_to rfl rfl (fun w => run_gti w _ _ _ _ _ _) (vbool (decide_eq_false (by first | assumption | omega))))) ?_
        refine RG.S0 (LT.run rfl rfl rfl (rt_move rfl)) ?_
        refine RG.S0 (LT.skip rfl rfl rfl) ?_
        refine RG.S0 (LT.skip rfl rfl rfl) ?_
        refine RG.S0 (LT.skip rfl rfl rfl) ?_
        refine RG.S0 (LT.skip rfl rfl rfl) ?_
        refine RG.S0 (LT.skip rfl rfl rfl) ?_
        refine RG.S0 (LT.skip rfl rfl rfl) ?_
        refine RG.S0 (LT.skip rfl rfl rfl) ?_
        refine RG.S0 (LT.skip rfl rfl rfl) ?_
        refine RG.S0 (LT.skip rfl rfl rfl) ?_
        refine RG.S0 (LT.run rfl rfl rfl (rt_pick_false rfl rfl)) ?_
        refine jS (rt_pick_false rfl rfl) ?_
        refine jm rfl ?_
        refine RG.S0 (LT.run rfl rfl rfl (ru_fieldAddr rfl rfl)) ?_
        refine RG.S0 (LT.run rfl rfl rfl (ru_load1 rfl rfl rfl)) ?_
        refine RG.S0 (LT.run rfl rfl rfl (rt_bin_to rfl rfl (fun w => run_nei w _ _ _ _ _ _) (vbool (bneT (by first | assumption | omega))))) ?_
        refine RG.S0 (LT.run rfl rfl rfl (rt_move rfl)) ?_
        refine RG.S0 (LT.run rfl rfl rfl (ru_fieldAddr rfl rfl)) ?_
        refine RG.S0 (LT.run rfl rfl rfl (ru_load1 rfl rfl rfl)) ?_
        refine RG.S0 (LT.run rfl rfl rfl (rt_bin_to rfl rfl (fun w => run_nei w _ _ _ _ _ _) (vbool (bneF (by first | assumption | omega))))) ?_
        refine RG.S0 (LT.run rfl rfl rfl (rt_pick_true rfl rfl)) ?_
        refine jS (rt_pick_false rfl rfl) ?_
        refine jm rfl ?_
        refine RG.S0 (LT.run rfl rfl rfl (ru_fieldAddr rfl rfl)) ?_
        refine RG.S0 (LT.run rfl rfl rfl (ru_load1 rfl rfl rfl)) ?_
        refine RG.S0 (LT.run rfl rfl rfl (rt_bin_to rfl rfl (fun w => run_lti w _ _ _ _ _ _) (vbool (decide_eq_false (by first | assumption | omega))))) ?_
        refine jS (rt_pick_false rfl rfl) ?_
        refine jm rfl ?_
        refine RG.S0 (LT.run rfl rfl rfl (ru_fieldAddr rfl rfl)) ?_
        refine RG.S0 (LT.run rfl rfl rfl (ru_load1 rfl rfl rfl)) ?_
        refine RG.S0 (LT.run rfl rfl rfl (rt_move rfl)) ?_
        refine RG.S0 (LT.run rfl rfl rfl (rt_bin_to rfl rfl (fun w => run_subi w _ _ _ _ _ _) (vint w2))) ?_
        refine RG.S0 (LT.run rfl rfl rfl (rt_bin_to rfl rfl (fun w => run_gti w _ _ _ _ _ _) (vbool (decide_eq_false (by first | assumption | omega))))) ?_
        refine jS (rt_pick_false rfl rfl) ?_
        refine RG.nil (by kernel_rfl) ?_
        repeat (first | refine js ?_ | refine jb ?_)
        refine WpD.condF rfl ?_
        repeat (first | refine js ?_ | refine jb ?_)
        refine WpD.skip ?_
        repeat (first | refine js ?_ | refine jb ?_)
        refine jr ?_
        refine jm rfl ?_
        refine jS (ru_fieldAddr rfl rfl) ?_
        refine jS (ru_load1 rfl rfl rfl) ?_
        refine jS (rt_bin_to rfl rfl (fun w => run_addi w _ _ _ _ _ _) (vint w3)) ?_
        refine ja rfl ?_
        refine RG.nil (by kernel_rfl) ?_
        repeat (first | refine js ?_ | refine jb ?_)
        refine jr ?_
        refine jS (rt_bin_to rfl rfl (fun w => run_addi w _ _ _ _ _ _) (vint w1)) ?_
        refine jm rfl ?_
        refine RG.nil (by kernel_rfl) ?_
        refine ⟨⟨i + 1, by omega⟩, ?_, by dsimp only; omega⟩
        refine Sub.mk ?_ ?_
        · repeat (first | exact trivial | refine jv rfl ?_ | refine jw rfl (js0 rfl) ?_ | refine jw rfl ⟨js0 rfl, js0 rfl⟩ ?_ | refine jx rfl ⟨js0 rfl, js0 rfl⟩ ?_ | refine jw rfl (clo_live (js0 rfl) (js0 rfl)) ?_ | refine ⟨⟨_, rfl, PLe.refl _⟩, trivial, ?_⟩)
        · repeat (first | exact trivial | refine jz ?_ | refine jy rfl ?_)
    · have hl2 : i - 1 < n := by omega
      have hq2 : ((rows (ccs f) n).drop ((i - 1) * 5)).take 5 = coc (f (i - 1)) := rows_get (ccs_len f) hl2
      rw [co_lit H hl2] at hq2
      have g5 := H.up (i - 1) i (by omega) hlt
      have w4 : IntKind.i64.wrap ((i : Int) - 1) = ((i - 1 : Nat) : Int) := by rw [w64 (by omega) (by omega)]; omega
      rcases H.sg i hlt with hs | hs
      · repeat (first | refine js ?_ | refine jb ?_)
        refine jr ?_
        refine jS (rt_bin_to rfl rfl (fun w => run_lti w _ _ _ _ _ _) (vbool (decide_eq_true (by first | assumption | omega)))) ?_
        refine RG.nil (by kernel_rfl) ?_
        repeat (first | refine js ?_ | refine jb ?_)
        refine WpD.condT rfl ?_
        repeat (first | refine js ?_ | refine jb ?_)
        refine WpD.skip ?_
        repeat (first | refine js ?_ | refine jb ?_)
        refine jr ?_
        refine jm rfl ?_
        refine jS (rc_indexS rfl rfl hlt hq) ?_
        refine jS (rc_loadR rfl rfl rfl) ?_
        refine jT (ru_alloc rfl rfl rfl) ?_
        refine ja rfl ?_
        refine jO (ru_storeR rfl rfl rfl rfl rfl rfl) ?_
        refine RG.nil (by kernel_rfl) ?_
        repeat (first | refine js ?_ | refine jb ?_)
        refine jr ?_
        refine jS (ru_fieldAddr rfl rfl) ?_
        refine jS (ru_load1 rfl rfl rfl) ?_
        refine jS (rt_bin_to rfl rfl (fun w => run_lti w _ _ _ _ _ _) (vbool (decide_eq_false (by first | assumption | omega)))) ?_
        refine jm rfl ?_
        refine RG.S0 (LT.run rfl rfl rfl (ru_fieldAddr rfl rfl)) ?_
        refine RG.S0 (LT.run rfl rfl rfl (ru_load1 rfl rfl rfl)) ?_
        refine RG.S0 (LT.run rfl rfl rfl (rt_bin_to rfl rfl (fun w => run_gti w _ _ _ _ _ _) (vbool (decide_eq_false (by first | assumption | omega))))) ?_
        refine jS (rt_pick_false rfl rfl) ?_
        refine jm rfl ?_
        refine RG.S0 (LT.run rfl rfl rfl (rt_move rfl)) ?_
        refine RG.S0 (LT.run rfl rfl rfl (rt_bin_to rfl rfl (fun w => run_gti w _ _ _ _ _ _) (vbool (decide_eq_true (by first | assumption | omega))))) ?_
        refine RG.S0 (LT.run rfl rfl rfl (rt_move rfl)) ?_
        refine RG.S0 (LT.run rfl rfl rfl (ru_fieldAddr rfl rfl)) ?_
        refine RG.S0 (LT.run rfl rfl rfl (ru_load1 rfl rfl rfl)) ?_
        refine RG.S0 (LT.run rfl rfl rfl (rt_move rfl)) ?_
        refine RG.S0 (LT.run rfl rfl rfl (rt_move rfl)) ?_
        refine RG.S0 (LT.run rfl rfl rfl (rt_bin_to rfl rfl (fun w => run_subi w _ _ _ _ _ _) (vint w4))) ?_
        refine RG.S0 (LT.run rfl rfl rfl (rc_indexS rfl rfl hl2 hq2)) ?_
        refine RG.S0 (LT.run rfl rfl rfl (rc_fieldAddr rfl rfl)) ?_
        refine RG.S0 (LT.run rfl rfl rfl (rc_load1 rfl rfl)) ?_
        refine RG.S0 (LT.run rfl rfl rfl (rt_bin_to rfl rfl (fun w => run_lei w _ _ _ _ _ _) (vbool (decide_eq_false (by first | assumption | omega))))) ?_
        refine RG.S0 (LT.run rfl rfl rfl (rt_pick_true rfl rfl)) ?_
        refine jS (rt_pick_false rfl rfl) ?_
        refine jm rfl ?_
        refine RG.S0 (LT.run rfl rfl rfl (ru_fieldAddr rfl rfl)) ?_
        refine RG.S0 (LT.run rfl rfl rfl (ru_load1 rfl rfl rfl)) ?_
        refine RG.S0 (LT.run rfl rfl rfl (rt_bin_to rfl rfl (fun w => run_nei w _ _ _ _ _ _) (vbool (bneF (by first | assumption | omega))))) ?_
        refine RG.S0 (LT.run rfl rfl rfl (rt_move rfl)) ?_
        refine RG.S0 (LT.skip rfl rfl rfl) ?_
        refine RG.S0 (LT.skip rfl rfl rfl) ?_
        refine RG.S0 (LT.skip rfl rfl rfl) ?_
        refine RG.S0 (LT.run rfl rfl rfl (rt_pick_false rfl rfl)) ?_
        refine jS (rt_pick_false rfl rfl) ?_
        refine jm rfl ?_
        refine RG.S0 (LT.run rfl rfl rfl (ru_fieldAddr rfl rfl)) ?_
        refine RG.S0 (LT.run rfl rfl rfl (ru_load1 rfl rfl rfl)) ?_
        refine RG.S0 (LT.run rfl rfl rfl (rt_bin_to rfl rfl (fun w => run_lti w _ _ _ _ _ _) (vbool (decide_eq_false (by first | assumption | omega))))) ?_
        refine jS (rt_pick_false rfl rfl) ?_
        refine jm rfl ?_
        refine RG.S0 (LT.run rfl rfl rfl (ru_fieldAddr rfl rfl)) ?_
        refine RG.S0 (LT.run rfl rfl rfl (ru_load1 rfl rfl rfl)) ?_
        refine RG.S0 (LT.run rfl rfl rfl (rt_move rfl)) ?_
        refine RG.S0 (LT.run rfl rfl rfl (rt_bin_to rfl rfl (fun w => run_subi w _ _ _ _ _ _) (vint w2))) ?_
        refine RG.S0 (LT.run rfl rfl rfl (rt_bin_to rfl rfl (fun w => run_gti w _ _ _ _ _ _) (vbool (decide_eq_false (by first | assumption | omega))))) ?_
        refine jS (rt_pick_false rfl rfl) ?_
        refine RG.nil (by kernel_rfl) ?_
        repeat (first | refine js ?_ | refine jb ?_)
        refine WpD.condF rfl ?_
        repeat (first | refine js ?_ | refine jb ?_)
        refine WpD.skip ?_
        repeat (first | refine js ?_ | refine jb ?_)
        refine jr ?_
        refine jm rfl ?_
        refine jS (ru_fieldAddr rfl rfl) ?_
        refine jS (ru_load1 rfl rfl rfl) ?_
        refine jS (rt_bin_to rfl rfl (fun w => run_addi w _ _ _ _ _ _) (vint w3)) ?_
        refine ja rfl ?_
        refine RG.nil (by kernel_rfl) ?_
        repeat (first | refine js ?_ | refine jb ?_)
        refine jr ?_
        refine jS (rt_bin_to rfl rfl (fun w => run_addi w _ _ _ _ _ _) (vint w1)) ?_
        refine jm rfl ?_
        refine RG.nil (by kernel_rfl) ?_
        refine ⟨⟨i + 1, by omega⟩, ?_, by dsimp only; omega⟩
        refine Sub.mk ?_ ?_
        · repeat (first | exact trivial | refine jv rfl ?_ | refine jw rfl (js0 rfl) ?_ | refine jw rfl ⟨js0 rfl, js0 rfl⟩ ?_ | refine jx rfl ⟨js0 rfl, js0 rfl⟩ ?_ | refine jw rfl (clo_live (js0 rfl) (js0 rfl)) ?_ | refine ⟨⟨_, rfl, PLe.refl _⟩, trivial, ?_⟩)
        · repeat (first | exact trivial | refine jz ?_ | refine jy rfl ?_)
      · repeat (first | refine js ?_ | refine jb ?_)
        refine jr ?_
        refine jS (rt_bin_to rfl rfl (fun w => run_lti w _ _ _ _ _ _) (vbool (decide_eq_true (by first | assumption | omega)))) ?_
        refine RG.nil (by kernel_rfl) ?_
        repeat (first | refine js ?_ | refine jb ?_)
        refine WpD.condT rfl ?_
        repeat (first | refine js ?_ | refine jb ?_)
        refine WpD.skip ?_
        repeat (first | refine js ?_ | refine jb ?_)
        refine jr ?_
        refine jm rfl ?_
        refine jS (rc_indexS rfl rfl hlt hq) ?_
        refine jS (rc_loadR rfl rfl rfl) ?_
        refine jT (ru_alloc rfl rfl rfl) ?_
        refine ja rfl ?_
        refine jO (ru_storeR rfl rfl rfl rfl rfl rfl) ?_
        refine RG.nil (by kernel_rfl) ?_
        repeat (first | refine js ?_ | refine jb ?_)
        refine jr ?_
        refine jS (ru_fieldAddr rfl rfl) ?_
        refine jS (ru_load1 rfl rfl rfl) ?_
        refine jS (rt_bin_to rfl rfl (fun w => run_lti w _ _ _ _ _ _) (vbool (decide_eq_false (by first | assumption | omega)))) ?_
        refine jm rfl ?_
        refine RG.S0 (LT.run rfl rfl rfl (ru_fieldAddr rfl rfl)) ?_
        refine RG.S0 (LT.run rfl rfl rfl (ru_load1 rfl rfl rfl)) ?_
        refine RG.S0 (LT.run rfl rfl rfl (rt_bin_to rfl rfl (fun w => run_gti w _ _ _ _ _ _) (vbool (decide_eq_false (by first | assumption | omega))))) ?_
        refine jS (rt_pick_false rfl rfl) ?_
        refine jm rfl ?_
        refine RG.S0 (LT.run rfl rfl rfl (rt_move rfl)) ?_
        refine RG.S0 (LT.run rfl rfl rfl (rt_bin_to rfl rfl (fun w => run_gti w _ _ _ _ _ _) (vbool (decide_eq_true (by first | assumption | omega))))) ?_
        refine RG.S0 (LT.run rfl rfl rfl (rt_move rfl)) ?_
        refine RG.S0 (LT.run rfl rfl rfl (ru_fieldAddr rfl rfl)) ?_
        refine RG.S0 (LT.run rfl rfl rfl (ru_load1 rfl rfl rfl)) ?_
        refine RG.S0 (LT.run rfl rfl rfl (rt_move rfl)) ?_
        refine RG.S0 (LT.run rfl rfl rfl (rt_move rfl)) ?_
        refine RG.S0 (LT.run rfl rfl rfl (rt_bin_to rfl rfl (fun w => run_subi w _ _ _ _ _ _) (vint w4))) ?_
        refine RG.S0 (LT.run rfl rfl rfl (rc_indexS rfl rfl hl2 hq2)) ?_
        refine RG.S0 (LT.run rfl rfl rfl (rc_fieldAddr rfl rfl)) ?_
        refine RG.S0 (LT.run rfl rfl rfl (rc_load1 rfl rfl)) ?_
        refine RG.S0 (LT.run rfl rfl rfl (rt_bin_to rfl rfl (fun w => run_lei w _ _ _ _ _ _) (vbool (decide_eq_false (by first | assumption | omega))))) ?_
        refine RG.S0 (LT.run rfl rfl rfl (rt_pick_true rfl rfl)) ?_
        refine jS (rt_pick_false rfl rfl) ?_
        refine jm rfl ?_
        refine RG.S0 (LT.run rfl rfl rfl (ru_fieldAddr rfl rfl)) ?_
        refine RG.S0 (LT.run rfl rfl rfl (ru_load1 rfl rfl rfl)) ?_
        refine RG.S0 (LT.run rfl rfl rfl (rt_bin_to rfl rfl (fun w => run_nei w _ _ _ _ _ _) (vbool (bneT (by first | assumption | omega))))) ?_
        refine RG.S0 (LT.run rfl rfl rfl (rt_move rfl)) ?_
        refine RG.S0 (LT.run rfl rfl rfl (ru_fieldAddr rfl rfl)) ?_
        refine RG.S0 (LT.run rfl rfl rfl (ru_load1 rfl rfl rfl)) ?_
        refine RG.S0 (LT.run rfl rfl rfl (rt_bin_to rfl rfl (fun w => run_nei w _ _ _ _ _ _) (vbool (bneF (by first | assumption | omega))))) ?_
        refine RG.S0 (LT.run rfl rfl rfl (rt_pick_true rfl rfl)) ?_
        refine jS (rt_pick_false rfl rfl) ?_
        refine jm rfl ?_
        refine RG.S0 (LT.run rfl rfl rfl (ru_fieldAddr rfl rfl)) ?_
        refine RG.S0 (LT.run rfl rfl rfl (ru_load1 rfl rfl rfl)) ?_
        refine RG.S0 (LT.run rfl rfl rfl (rt_bin_to rfl rfl (fun w => run_lti w _ _ _ _ _ _) (vbool (decide_eq_false (by first | assumption | omega))))) ?_
        refine jS (rt_pick_false rfl rfl) ?_
        refine jm rfl ?_
        refine RG.S0 (LT.run rfl rfl rfl (ru_fieldAddr rfl rfl)) ?_
        refine RG.S0 (LT.run rfl rfl rfl (ru_load1 rfl rfl rfl)) ?_
        refine RG.S0 (LT.run rfl rfl rfl (rt_move rfl)) ?_
        refine RG.S0 (LT.run rfl rfl rfl (rt_bin_to rfl rfl (fun w => run_subi w _ _ _ _ _ _) (vint w2))) ?_
        refine RG.S0 (LT.run rfl rfl rfl (rt_bin_to rfl rfl (fun w => run_gti w _ _ _ _ _ _) (vbool (decide_eq_false (by first | assumption | omega))))) ?_
        refine jS (rt_pick_false rfl rfl) ?_
        refine RG.nil (by kernel_rfl) ?_
        repeat (first | refine js ?_ | refine jb ?_)
        refine WpD.condF rfl ?_
        repeat (first | refine js ?_ | refine jb ?_)
        refine WpD.skip ?_
        repeat (first | refine js ?_ | refine jb ?_)
        refine jr ?_
        refine jm rfl ?_
        refine jS (ru_fieldAddr rfl rfl) ?_
        refine jS (ru_load1 rfl rfl rfl) ?_
        refine jS (rt_bin_to rfl rfl (fun w => run_addi w _ _ _ _ _ _) (vint w3)) ?_
        refine ja rfl ?_
        refine RG.nil (by kernel_rfl) ?_
        repeat (first | refine js ?_ | refine jb ?_)
        refine jr ?_
        refine jS (rt_bin_to rfl rfl (fun w => run_addi w _ _ _ _ _ _) (vint w1)) ?_
        refine jm rfl ?_
        refine RG.nil (by kernel_rfl) ?_
        refine ⟨⟨i + 1, by omega⟩, ?_, by dsimp only; omega⟩
        refine Sub.mk ?_ ?_
        · repeat (first | exact trivial | refine jv rfl ?_ | refine jw rfl (js0 rfl) ?_ | refine jw rfl ⟨js0 rfl, js0 rfl⟩ ?_ | refine jx rfl ⟨js0 rfl, js0 rfl⟩ ?_ | refine jw rfl (clo_live (js0 rfl) (js0 rfl)) ?_ | refine ⟨⟨_, rfl, PLe.refl _⟩, trivial, ?_⟩)
        · repeat (first | exact trivial | refine jz ?_ | refine jy rfl ?_)
  · have : i = n := by omega
    subst this
    have g1 := dsm_bd H (i := i) (by omega)
    repeat (first | refine js ?_ | refine jb ?_)
    refine jr ?_
    refine jS (rt_bin_to rfl rfl (fun w => run_lti w _ _ _ _ _ _) (vbool (decide_eq_false (by first | assumption | omega)))) ?_
    refine RG.nil (by kernel_rfl) ?_
    repeat (first | refine js ?_ | refine jb ?_)
    refine WpD.condF rfl ?_
    repeat (first | refine js ?_ | refine jb ?_)
    refine WpD.exit ?_
    repeat (first | refine js ?_ | refine jb ?_)
    refine jr ?_
    refine jm rfl ?_
    refine jS (rt_bin_to rfl rfl (fun w => run_gti w _ _ _ _ _ _) (vbool (decide_eq_true (by first | assumption | omega)))) ?_
    refine ja rfl ?_
    refine RG.nil (by kernel_rfl) ?_
    repeat (first | refine js ?_ | refine jb ?_)
    refine WpD.ret ?_
    exact ret1 rfl (.tmp rfl) (PLe.refl _)
theorem rodd (p : Int) (hp : smP p = true) (h3 : 3 ≤ p) : Fn Tryz.prog En 54 [ex (.int .i64 p)] (ex (.bool true)) := by
  have C1 := rsmall En p
  rw [hp] at C1
  refine fn_of_body Tryz.func54 rfl Tryz.ntmps54 rfl ?_
  intro w0 h0
  repeat (first | refine js ?_ | refine jb ?_)
  refine jr ?_
  refine ja rfl ?_
  refine RG.nil (by kernel_rfl) ?_
  repeat (first | refine js ?_ | refine jb ?_)
  refine jr ?_
  refine jm rfl ?_
  refine jS (rt_bin_to rfl rfl (fun w => run_nei w _ _ _ _ _ _) (vbool (bneT (by first | assumption | omega)))) ?_
  refine jm rfl ?_
  refine RG.S0 (LT.run rfl rfl rfl (rt_move rfl)) ?_
  refine RG.S0 (LT.run rfl rfl rfl (ru_call C1 ⟨rfl, trivial⟩)) ?_
  refine jS (rt_pick_true rfl rfl) ?_
  refine ja rfl ?_
  refine RG.nil (by kernel_rfl) ?_
  repeat (first | refine js ?_ | refine jb ?_)
  refine WpD.ret ?_
  exact ret1 rfl (.tmp rfl) (PLe.refl _)
theorem rvalid (p : Int) (f : Nat → Co) (n : Nat) (H : OddL f n) (hp : smP p = true) (h3 : 3 ≤ p) : Fn Tryz.prog En 30 [locP p f n] (ex (.bool true)) := by
  have hn8 := H.n8
  have C1 := rodd En p hp h3
  have C2 := rorder En f n H
  unfold locP
  refine fn_of_body Tryz.func30 rfl Tryz.ntmps30 rfl ?_
  intro w0 h0
  repeat (first | refine js ?_ | refine jb ?_)
  refine jr ?_
  refine jT (ru_boxR rfl rfl rfl) ?_
  refine ja rfl ?_
  refine RG.nil (by kernel_rfl) ?_
  repeat (first | refine js ?_ | refine jb ?_)
  refine jr ?_
  refine jS (ru_fieldAddr rfl rfl) ?_
  refine jS (ru_load1 rfl rfl rfl) ?_
  refine jS (ru_call C1 ⟨rfl, trivial⟩) ?_
  refine jS (rt_un rfl (fun w => run_not w _)) ?_
  refine jm rfl ?_
  first | refine RG.S0 (LT.run rfl rfl rfl (ru_fieldAddr rfl rfl)) ?_ | refine RG.S0 (LT.skip rfl rfl rfl) ?_ | refine RG.S0 (LT.skipU rfl rfl rfl) ?_
  first | refine RG.S0 (LT.run rfl rfl rfl (ru_load1 rfl rfl rfl)) ?_ | refine RG.S0 (LT.skip rfl rfl rfl) ?_ | refine RG.S0 (LT.skipU rfl rfl rfl) ?_
  first | refine RG.S0 (LT.run rfl rfl rfl (ru_call C2 ⟨rfl, trivial⟩)) ?_ | refine RG.S0 (LT.skip rfl rfl rfl) ?_ | refine RG.S0 (LT.skipU rfl rfl rfl) ?_
  first | refine RG.S0 (LT.run rfl rfl rfl (rt_un rfl (fun w => run_not w _))) ?_ | refine RG.S0 (LT.skip rfl rfl rfl) ?_ | refine RG.S0 (LT.skipU rfl rfl rfl) ?_
  first | refine jS (rt_pick_true rfl rfl) ?_ | refine jS (rt_pick_false rfl rfl) ?_
  refine RG.nil (by kernel_rfl) ?_
  repeat (first | refine js ?_ | refine jb ?_)
  refine WpD.condF rfl ?_
  repeat (first | refine js ?_ | refine jb ?_)
  refine WpD.skip ?_
  repeat (first | refine js ?_ | refine jb ?_)
  refine jr ?_
  refine jS (ru_fieldAddr rfl rfl) ?_
  refine jS (ru_load1 rfl rfl rfl) ?_
  refine jS (ru_len rfl CSlice.ok) ?_
  refine jm rfl ?_
  refine RG.nil (by kernel_rfl) ?_
  repeat (first | refine js ?_ | refine jb ?_)
  refine WpD.loop (α := {i : Nat // i ≤ n}) (fun i => ⟨[(16, .one (slc 5 (rows (ccs f) n) n)), (17, .one (ex (.int .i64 (n : Int)))), (18, .one (ex (.int .i64 (i.1 : Int))))], []⟩) (fun i => n - i.1) ⟨0, Nat.zero_le _⟩ ?_ ?_
  · refine Sub.mk ?_ ?_
    · repeat (first | exact trivial | refine jv rfl ?_ | refine jw rfl (js0 rfl) ?_ | refine jw rfl ⟨js0 rfl, js0 rfl⟩ ?_ | refine jx rfl ⟨js0 rfl, js0 rfl⟩ ?_ | refine jw rfl (clo_live (js0 rfl) (js0 rfl)) ?_ | refine ⟨⟨_, rfl, PLe.refl _⟩, trivial, ?_⟩)
    · repeat (first | exact trivial | refine jz ?_ | refine jy rfl ?_)
  rintro ⟨i, hi⟩
  dsimp only at hi ⊢
  by_cases hlt : i < n
  · have hq : ((rows (ccs f) n).drop (i * 5)).take 5 = coc (f i) := rows_get (ccs_len f) hlt
    rw [co_lit H hlt] at hq
    have w1 : IntKind.i64.wrap ((i : Int) + 1) = ((i + 1 : Nat) : Int) := by rw [w64 (by omega) (by omega)]; rfl
    repeat (first | refine js ?_ | refine jb ?_)
    refine jr ?_
    refine jS (rt_bin_to rfl rfl (fun w => run_lti w _ _ _ _ _ _) (vbool (decide_eq_true (by first | assumption | omega)))) ?_
    refine RG.nil (by kernel_rfl) ?_
    repeat (first | refine js ?_ | refine jb ?_)
    refine WpD.condT rfl ?_
    repeat (first | refine js ?_ | refine jb ?_)
    refine WpD.skip ?_
    repeat (first | refine js ?_ | refine jb ?_)
    refine jr ?_
    refine jS (rc_indexS rfl rfl hlt hq) ?_
    refine jS (rc_loadR rfl rfl rfl) ?_
    refine jT (ru_alloc rfl rfl rfl) ?_
    refine jO (ru_storeR rfl rfl rfl rfl rfl rfl) ?_
    refine RG.nil (by kernel_rfl) ?_
    repeat (first | refine js ?_ | refine jb ?_)
    refine jr ?_
    refine jS (ru_fieldAddr rfl rfl) ?_
    refine jS (ru_load1 rfl rfl rfl) ?_
    refine jm rfl ?_
    first | refine RG.S0 (LT.run rfl rfl rfl (ru_fieldAddr rfl rfl)) ?_ | refine RG.S0 (LT.skip rfl rfl rfl) ?_ | refine RG.S0 (LT.skipU rfl rfl rfl) ?_
    first | refine RG.S0 (LT.run rfl rfl rfl (ru_load1 rfl rfl rfl)) ?_ | refine RG.S0 (LT.skip rfl rfl rfl) ?_ | refine RG.S0 (LT.skipU rfl rfl rfl) ?_
    first | refine RG.S0 (LT.run rfl rfl rfl (rt_bin_to rfl rfl (fun w => run_nei w _ _ _ _ _ _) (vbool (bneF (by first | assumption | omega))))) ?_ | refine RG.S0 (LT.skip rfl rfl rfl) ?_ | refine RG.S0 (LT.skipU rfl rfl rfl) ?_
    first | refine jS (rt_pick_true rfl rfl) ?_ | refine jS (rt_pick_false rfl rfl) ?_
    refine RG.nil (by kernel_rfl) ?_
    repeat (first | refine js ?_ | refine jb ?_)
    refine WpD.condF rfl ?_
    repeat (first | refine js ?_ | refine jb ?_)
    refine WpD.skip ?_
    repeat (first | refine js ?_ | refine jb ?_)
    refine jr ?_
    refine jS (rt_bin_to rfl rfl (fun w => run_addi w _ _ _ _ _ _) (vint w1)) ?_
    refine jm rfl ?_
    refine RG.nil (by kernel_rfl) ?_
    refine ⟨⟨i + 1, by omega⟩, ?_, by dsimp only; omega⟩
    refine Sub.mk ?_ ?_
    · repeat (first | exact trivial | refine jv rfl ?_ | refine jw rfl (js0 rfl) ?_ | refine jw rfl ⟨js0 rfl, js0 rfl⟩ ?_ | refine jx rfl ⟨js0 rfl, js0 rfl⟩ ?_ | refine jw rfl (clo_live (js0 rfl) (js0 rfl)) ?_ | refine ⟨⟨_, rfl, PLe.refl _⟩, trivial, ?_⟩)
    · repeat (first | exact trivial | refine jz ?_ | refine jy rfl ?_)
  · have : i = n := by omega
    subst this
    repeat (first | refine js ?_ | refine jb ?_)
    refine jr ?_
    refine jS (rt_bin_to rfl rfl (fun w => run_lti w _ _ _ _ _ _) (vbool (decide_eq_false (by first | assumption | omega)))) ?_
    refine RG.nil (by kernel_rfl) ?_
    repeat (first | refine js ?_ | refine jb ?_)
    refine WpD.condF rfl ?_
    repeat (first | refine js ?_ | refine jb ?_)
    refine WpD.exit ?_
    repeat (first | refine js ?_ | refine jb ?_)
    refine jr ?_
    refine ja rfl ?_
    refine RG.nil (by kernel_rfl) ?_
    repeat (first | refine js ?_ | refine jb ?_)
    refine WpD.ret ?_
    exact ret1 rfl (.tmp rfl) (PLe.refl _)
end
set_option maxHeartbeats 1000000 in
theorem svalid (p : Int) (f : Nat → Co) (n : Nat) (H : OddL f n) (hp : smP p = true) (h3 : 3 ≤ p) : Fn Tryz.prog TabD 87 [locP p f n] (ex (.bool true)) := by
  have hn8 := H.n8
  have hn1 := H.n1
  obtain ⟨p1, p2, p3⟩ := smP_bd hp
  have C1 := (fis p).tab
  rw [p3] at C1
  unfold locP
  refine fn_of_body Tryz.func87 rfl Tryz.ntmps87 rfl ?_
  intro w0 h0
  repeat (first | refine js ?_ | refine jb ?_)
  refine jr ?_
  refine jT (ru_boxR rfl rfl rfl) ?_
  refine ja rfl ?_
  refine RG.nil (by kernel_rfl) ?_
  repeat (first | refine js ?_ | refine jb ?_)
  refine jr ?_
  refine jS (ru_fieldAddr rfl rfl) ?_
  refine jS (ru_load1 rfl rfl rfl) ?_
  refine jS (rt_bin_to rfl rfl (fun w => run_lei w _ _ _ _ _ _) (vbool (decide_eq_false (by first | assumption | omega)))) ?_
  refine jm rfl ?_
  refine RG.S0 (LT.run rfl rfl rfl (ru_fieldAddr rfl rfl)) ?_
  refine RG.S0 (LT.run rfl rfl rfl (ru_load1 rfl rfl rfl)) ?_
  refine RG.S0 (LT.run rfl rfl rfl (rt_bin_to rfl rfl (fun w => run_gti w _ _ _ _ _ _) (vbool (decide_eq_false (by first | assumption | omega))))) ?_
  refine jS (rt_pick_false rfl rfl) ?_
  refine jm rfl ?_
  refine RG.S0 (LT.run rfl rfl rfl (ru_fieldAddr rfl rfl)) ?_
  refine RG.S0 (LT.run rfl rfl rfl (ru_load1 rfl rfl rfl)) ?_
  refine RG.S0 (LT.run rfl rfl rfl (ru_call C1 ⟨rfl, trivial⟩)) ?_
  refine RG.S0 (LT.run rfl rfl rfl (rt_un rfl (fun w => run_not w _))) ?_
  refine jS (rt_pick_false rfl rfl) ?_
  refine jm rfl ?_
  first | refine RG.S0 (LT.run rfl rfl rfl (ru_fieldAddr rfl rfl)) ?_ | refine RG.S0 (LT.skip rfl rfl rfl) ?_ | refine RG.S0 (LT.skipU rfl rfl rfl) ?_
  first | refine RG.S0 (LT.run rfl rfl rfl (ru_load1 rfl rfl rfl)) ?_ | refine RG.S0 (LT.skip rfl rfl rfl) ?_ | refine RG.S0 (LT.skipU rfl rfl rfl) ?_
  first | refine RG.S0 (LT.run rfl rfl rfl (ru_len rfl CSlice.ok)) ?_ | refine RG.S0 (LT.skip rfl rfl rfl) ?_ | refine RG.S0 (LT.skipU rfl rfl rfl) ?_
  first | refine RG.S0 (LT.run rfl rfl rfl (rt_bin_to rfl rfl (fun w => run_eqi w _ _ _ _ _ _) (vbool (beqF (by first | assumption | omega))))) ?_ | refine RG.S0 (LT.skip rfl rfl rfl) ?_ | refine RG.S0 (LT.skipU rfl rfl rfl) ?_
  first | refine jS (rt_pick_true rfl rfl) ?_ | refine jS (rt_pick_false rfl rfl) ?_
  refine RG.nil (by kernel_rfl) ?_
  repeat (first | refine js ?_ | refine jb ?_)
  refine WpD.condF rfl ?_
  repeat (first | refine js ?_ | refine jb ?_)
  refine WpD.skip ?_
  repeat (first | refine js ?_ | refine jb ?_)
  refine jr ?_
  refine ja rfl ?_
  refine ja rfl ?_
  refine RG.nil (by kernel_rfl) ?_
  repeat (first | refine js ?_ | refine jb ?_)
  refine jr ?_
  refine jS (ru_fieldAddr rfl rfl) ?_
  refine jS (ru_load1 rfl rfl rfl) ?_
  refine jS (ru_len rfl CSlice.ok) ?_
  refine jm rfl ?_
  refine RG.nil (by kernel_rfl) ?_
  repeat (first | refine js ?_ | refine jb ?_)
  refine WpD.loop (α := {i : Nat // i ≤ n}) (fun i => ⟨[(3, .one (ex (.int .i64 (dsm f i.1)))), (4, .one (ex (.int .i64 (if i.1 = 0 then -1 else (f (i.1 - 1)).e)))), (28, .one (slc 5 (rows (ccs f) n) n)), (29, .one (ex (.int .i64 (n : Int)))), (30, .one (ex (.int .i64 (i.1 : Int))))], []⟩) (fun i => n - i.1) ⟨0, Nat.zero_le _⟩ ?_ ?_
  · refine Sub.mk ?_ ?_
    · repeat (first | exact trivial | refine jv rfl ?_ | refine jw rfl (js0 rfl) ?_ | refine jw rfl ⟨js0 rfl, js0 rfl⟩ ?_ | refine jx rfl ⟨js0 rfl, js0 rfl⟩ ?_ | refine jw rfl (clo_live (js0 rfl) (js0 rfl)) ?_ | refine ⟨⟨_, rfl, PLe.refl _⟩, trivial, ?_⟩)
    · repeat (first | exact trivial | refine jz ?_ | refine jy rfl ?_)
  rintro ⟨i, hi⟩
  dsimp only at hi ⊢
  by_cases hlt : i < n
  · have hq : ((rows (ccs f) n).drop (i * 5)).take 5 = coc (f i) := rows_get (ccs_len f) hlt
    rw [co_lit H hlt] at hq
    have w1 : IntKind.i64.wrap ((i : Int) + 1) = ((i + 1 : Nat) : Int) := by rw [w64 (by omega) (by omega)]; rfl
    obtain ⟨m1, m2⟩ := dsm_room H hlt
    have g1 := H.e0 i hlt
    have g2 := H.e6 i hlt
    have g3 := H.d0 i hlt
    have g4 := H.d8 i hlt
    have w2 : IntKind.i64.wrap (8 - dsm f i) = 8 - dsm f i := w64 (by omega) (by omega)
    have w3 : IntKind.i64.wrap (dsm f i + (f i).d) = dsm f (i + 1) := w64 (by omega) (by omega)
    have g5 : (if i = 0 then -1 else (f (i - 1)).e) < (f i).e := by
      split
      · omega
      · exact H.up (i - 1) i (by omega) hlt
    have g6 : (if i + 1 = 0 then -1 else (f (i + 1 - 1)).e) = (f i).e := by rw [if_neg (by omega), Nat.add_sub_cancel]
    generalize (if i = 0 then -1 else (f (i - 1)).e) = last at *
    rcases H.sg i hlt with hs | hs
    · repeat (first | refine js ?_ | refine jb ?_)
      refine jr ?_
      refine jS (rt_bin_to rfl rfl (fun w => run_lti w _ _ _ _ _ _) (vbool (decide_eq_true (by first | assumption | omega)))) ?_
      refine RG.nil (by kernel_rfl) ?_
      repeat (first | refine js ?_ | refine jb ?_)
      refine WpD.condT rfl ?_
      repeat (first | refine js ?_ | refine jb ?_)
      refine WpD.skip ?_
      repeat (first | refine js ?_ | refine jb ?_)
      refine jr ?_
      refine jS (rc_indexS rfl rfl hlt hq) ?_
      refine jS (rc_loadR rfl rfl rfl) ?_
      refine jT (ru_alloc rfl rfl rfl) ?_
      refine jO (ru_storeR rfl rfl rfl rfl rfl rfl) ?_
      refine RG.nil (by kernel_rfl) ?_
      repeat (first | refine js ?_ | refine jb ?_)
      refine jr ?_
      refine jS (ru_fieldAddr rfl rfl) ?_
      refine jS (ru_load1 rfl rfl rfl) ?_
      refine jm rfl ?_
      refine jS (rt_bin_to rfl rfl (fun w => run_lei w _ _ _ _ _ _) (vbool (decide_eq_false (by first | assumption | omega)))) ?_
      refine jm rfl ?_
      refine RG.S0 (LT.run rfl rfl rfl (ru_fieldAddr rfl rfl)) ?_
      refine RG.S0 (LT.run rfl rfl rfl (ru_load1 rfl rfl rfl)) ?_
      refine RG.S0 (LT.run rfl rfl rfl (rt_bin_to rfl rfl (fun w => run_gti w _ _ _ _ _ _) (vbool (decide_eq_false (by first | assumption | omega))))) ?_
      refine jS (rt_pick_false rfl rfl) ?_
      refine jm rfl ?_
      refine RG.S0 (LT.run rfl rfl rfl (ru_fieldAddr rfl rfl)) ?_
      refine RG.S0 (LT.run rfl rfl rfl (ru_load1 rfl rfl rfl)) ?_
      refine RG.S0 (LT.run rfl rfl rfl (rt_bin_to rfl rfl (fun w => run_lti w _ _ _ _ _ _) (vbool (decide_eq_false (by first | assumption | omega))))) ?_
      refine jS (rt_pick_false rfl rfl) ?_
      refine jm rfl ?_
      refine RG.S0 (LT.run rfl rfl rfl (ru_fieldAddr rfl rfl)) ?_
      refine RG.S0 (LT.run rfl rfl rfl (ru_load1 rfl rfl rfl)) ?_
      refine RG.S0 (LT.run rfl rfl rfl (rt_move rfl)) ?_
      refine RG.S0 (LT.run rfl rfl rfl (rt_bin_to rfl rfl (fun w => run_subi w _ _ _ _ _ _) (vint w2))) ?_
      refine RG.S0 (LT.run rfl rfl rfl (rt_bin_to rfl rfl (fun w => run_gti w _ _ _ _ _ _) (vbool (decide_eq_false (by first | assumption | omega))))) ?_
      refine jS (rt_pick_false rfl rfl) ?_
      refine RG.nil (by kernel_rfl) ?_
      repeat (first | refine js ?_ | refine jb ?_)
      refine WpD.condF rfl ?_
      repeat (first | refine js ?_ | refine jb ?_)
      refine WpD.skip ?_
      repeat (first | refine js ?_ | refine jb ?_)
      refine jr ?_
      refine jS (ru_fieldAddr rfl rfl) ?_
      refine jS (ru_load1 rfl rfl rfl) ?_
      refine jS (rt_bin_to rfl rfl (fun w => run_nei w _ _ _ _ _ _) (vbool (bneF (by first | assumption | omega)))) ?_
      refine jm rfl ?_
      refine RG.S0 (LT.skip rfl rfl rfl) ?_
      refine RG.S0 (LT.skip rfl rfl rfl) ?_
      refine RG.S0 (LT.skip rfl rfl rfl) ?_
      refine jS (rt_pick_false rfl rfl) ?_
      refine jm rfl ?_
      refine RG.S0 (LT.run rfl rfl rfl (ru_fieldAddr rfl rfl)) ?_
      refine RG.S0 (LT.run rfl rfl rfl (ru_load1 rfl rfl rfl)) ?_
      refine jS (rt_pick_false rfl rfl) ?_
      refine jm rfl ?_
      first | refine RG.S0 (LT.run rfl rfl rfl (ru_fieldAddr rfl rfl)) ?_ | refine RG.S0 (LT.skip rfl rfl rfl) ?_ | refine RG.S0 (LT.skipU rfl rfl rfl) ?_
      first | refine RG.S0 (LT.run rfl rfl rfl (ru_load1 rfl rfl rfl)) ?_ | refine RG.S0 (LT.skip rfl rfl rfl) ?_ | refine RG.S0 (LT.skipU rfl rfl rfl) ?_
      first | refine RG.S0 (LT.run rfl rfl rfl (rt_bin_to rfl rfl (fun w => run_nei w _ _ _ _ _ _) (vbool (bneF (by first | assumption | omega))))) ?_ | refine RG.S0 (LT.skip rfl rfl rfl) ?_ | refine RG.S0 (LT.skipU rfl rfl rfl) ?_
      first | refine jS (rt_pick_true rfl rfl) ?_ | refine jS (rt_pick_false rfl rfl) ?_
      refine RG.nil (by kernel_rfl) ?_
      repeat (first | refine js ?_ | refine jb ?_)
      refine WpD.condF rfl ?_
      repeat (first | refine js ?_ | refine jb ?_)
      refine WpD.skip ?_
      repeat (first | refine js ?_ | refine jb ?_)
      refine jr ?_
      refine jm rfl ?_
      refine jS (ru_fieldAddr rfl rfl) ?_
      refine jS (ru_load1 rfl rfl rfl) ?_
      refine jS (rt_bin_to rfl rfl (fun w => run_addi w _ _ _ _ _ _) (vint w3)) ?_
      refine ja rfl ?_
      refine RG.nil (by kernel_rfl) ?_
      repeat (first | refine js ?_ | refine jb ?_)
      refine jr ?_
      refine jS (ru_fieldAddr rfl rfl) ?_
      refine jS (ru_load1 rfl rfl rfl) ?_
      refine ja rfl ?_
      refine RG.nil (by kernel_rfl) ?_
      repeat (first | refine js ?_ | refine jb ?_)
      refine jr ?_
      refine jS (rt_bin_to rfl rfl (fun w => run_addi w _ _ _ _ _ _) (vint w1)) ?_
      refine jm rfl ?_
      refine RG.nil (by kernel_rfl) ?_
      refine ⟨⟨i + 1, by omega⟩, ?_, by dsimp only; omega⟩
      dsimp only
      rw [g6]
      refine Sub.mk ?_ ?_
      · repeat (first | exact trivial | refine jv rfl ?_ | refine jw rfl (js0 rfl) ?_ | refine jw rfl ⟨js0 rfl, js0 rfl⟩ ?_ | refine jx rfl ⟨js0 rfl, js0 rfl⟩ ?_ | refine jw rfl (clo_live (js0 rfl) (js0 rfl)) ?_ | refine ⟨⟨_, rfl, PLe.refl _⟩, trivial, ?_⟩)
      · repeat (first | exact trivial | refine jz ?_ | refine jy rfl ?_)
    · repeat (first | refine js ?_ | refine jb ?_)
      refine jr ?_
      refine jS (rt_bin_to rfl rfl (fun w => run_lti w _ _ _ _ _ _) (vbool (decide_eq_true (by first | assumption | omega)))) ?_
      refine RG.nil (by kernel_rfl) ?_
      repeat (first | refine js ?_ | refine jb ?_)
      refine WpD.condT rfl ?_
      repeat (first | refine js ?_ | refine jb ?_)
      refine WpD.skip ?_
      repeat (first | refine js ?_ | refine jb ?_)
      refine jr ?_
      refine jS (rc_indexS rfl rfl hlt hq) ?_
      refine jS (rc_loadR rfl rfl rfl) ?_
      refine jT (ru_alloc rfl rfl rfl) ?_
      refine jO (ru_storeR rfl rfl rfl rfl rfl rfl) ?_
      refine RG.nil (by kernel_rfl) ?_
      repeat (first | refine js ?_ | refine jb ?_)
      refine jr ?_
      refine jS (ru_fieldAddr rfl rfl) ?_
      refine jS (ru_load1 rfl rfl rfl) ?_
      refine jm rfl ?_
      refine jS (rt_bin_to rfl rfl (fun w => run_lei w _ _ _ _ _ _) (vbool (decide_eq_false (by first | assumption | omega)))) ?_
      refine jm rfl ?_
      refine RG.S0 (LT.run rfl rfl rfl (ru_fieldAddr rfl rfl)) ?_
      refine RG.S0 (LT.run rfl rfl rfl (ru_load1 rfl rfl rfl)) ?_
      refine RG.S0 (LT.run rfl rfl rfl (rt_bin_to rfl rfl (fun w => run_gti w _ _ _ _ _ _) (vbool (decide_eq_false (by first | assumption | omega))))) ?_
      refine jS (rt_pick_false rfl rfl) ?_
      refine jm rfl ?_
      refine RG.S0 (LT.run rfl rfl rfl (ru_fieldAddr rfl rfl)) ?_
      refine RG.S0 (LT.run rfl rfl rfl (ru_load1 rfl rfl rfl)) ?_
      refine RG.S0 (LT.run rfl rfl rfl (rt_bin_to rfl rfl (fun w => run_lti w _ _ _ _ _ _) (vbool (decide_eq_false (by first | assumption | omega))))) ?_
      refine jS (rt_pick_false rfl rfl) ?_
      refine jm rfl ?_
      refine RG.S0 (LT.run rfl rfl rfl (ru_fieldAddr rfl rfl)) ?_
      refine RG.S0 (LT.run rfl rfl rfl (ru_load1 rfl rfl rfl)) ?_
      refine RG.S0 (LT.run rfl rfl rfl (rt_move rfl)) ?_
      refine RG.S0 (LT.run rfl rfl rfl (rt_bin_to rfl rfl (fun w => run_subi w _ _ _ _ _ _) (vint w2))) ?_
      refine RG.S0 (LT.run rfl rfl rfl (rt_bin_to rfl rfl (fun w => run_gti w _ _ _ _ _ _) (vbool (decide_eq_false (by first | assumption | omega))))) ?_
      refine jS (rt_pick_false rfl rfl) ?_
      refine RG.nil (by kernel_rfl) ?_
      repeat (first | refine js ?_ | refine jb ?_)
      refine WpD.condF rfl ?_
      repeat (first | refine js ?_ | refine jb ?_)
      refine WpD.skip ?_
      repeat (first | refine js ?_ | refine jb ?_)
      refine jr ?_
      refine jS (ru_fieldAddr rfl rfl) ?_
      refine jS (ru_load1 rfl rfl rfl) ?_
      refine jS (rt_bin_to rfl rfl (fun w => run_nei w _ _ _ _ _ _) (vbool (bneT (by first | assumption | omega)))) ?_
      refine jm rfl ?_
      refine RG.S0 (LT.run rfl rfl rfl (ru_fieldAddr rfl rfl)) ?_
      refine RG.S0 (LT.run rfl rfl rfl (ru_load1 rfl rfl rfl)) ?_
      refine RG.S0 (LT.run rfl rfl rfl (rt_bin_to rfl rfl (fun w => run_nei w _ _ _ _ _ _) (vbool (bneF (by first | assumption | omega))))) ?_
      refine jS (rt_pick_true rfl rfl) ?_
      refine jm rfl ?_
      refine RG.S0 (LT.run rfl rfl rfl (ru_fieldAddr rfl rfl)) ?_
      refine RG.S0 (LT.run rfl rfl rfl (ru_load1 rfl rfl rfl)) ?_
      refine jS (rt_pick_false rfl rfl) ?_
      refine jm rfl ?_
      first | refine RG.S0 (LT.run rfl rfl rfl (ru_fieldAddr rfl rfl)) ?_ | refine RG.S0 (LT.skip rfl rfl rfl) ?_ | refine RG.S0 (LT.skipU rfl rfl rfl) ?_
      first | refine RG.S0 (LT.run rfl rfl rfl (ru_load1 rfl rfl rfl)) ?_ | refine RG.S0 (LT.skip rfl rfl rfl) ?_ | refine RG.S0 (LT.skipU rfl rfl rfl) ?_
      first | refine RG.S0 (LT.run rfl rfl rfl (rt_bin_to rfl rfl (fun w => run_nei w _ _ _ _ _ _) (vbool (bneF (by first | assumption | omega))))) ?_ | refine RG.S0 (LT.skip rfl rfl rfl) ?_ | refine RG.S0 (LT.skipU rfl rfl rfl) ?_
      first | refine jS (rt_pick_true rfl rfl) ?_ | refine jS (rt_pick_false rfl rfl) ?_
      refine RG.nil (by kernel_rfl) ?_
      repeat (first | refine js ?_ | refine jb ?_)
      refine WpD.condF rfl ?_
      repeat (first | refine js ?_ | refine jb ?_)
      refine WpD.skip ?_
      repeat (first | refine js ?_ | refine jb ?_)
      refine jr ?_
      refine jm rfl ?_
      refine jS (ru_fieldAddr rfl rfl) ?_
      refine jS (ru_load1 rfl rfl rfl) ?_
      refine jS (rt_bin_to rfl rfl (fun w => run_addi w _ _ _ _ _ _) (vint w3)) ?_
      refine ja rfl ?_
      refine RG.nil (by kernel_rfl) ?_
      repeat (first | refine js ?_ | refine jb ?_)
      refine jr ?_
      refine jS (ru_fieldAddr rfl rfl) ?_
      refine jS (ru_load1 rfl rfl rfl) ?_
      refine ja rfl ?_
      refine RG.nil (by kernel_rfl) ?_
      repeat (first | refine js ?_ | refine jb ?_)
      refine jr ?_
      refine jS (rt_bin_to rfl rfl (fun w => run_addi w _ _ _ _ _ _) (vint w1)) ?_
      refine jm rfl ?_
      refine RG.nil (by kernel_rfl) ?_
      refine ⟨⟨i + 1, by omega⟩, ?_, by dsimp only; omega⟩
      dsimp only
      rw [g6]
      refine Sub.mk ?_ ?_
      · repeat (first | exact trivial | refine jv rfl ?_ | refine jw rfl (js0 rfl) ?_ | refine jw rfl ⟨js0 rfl, js0 rfl⟩ ?_ | refine jx rfl ⟨js0 rfl, js0 rfl⟩ ?_ | refine jw rfl (clo_live (js0 rfl) (js0 rfl)) ?_ | refine ⟨⟨_, rfl, PLe.refl _⟩, trivial, ?_⟩)
      · repeat (first | exact trivial | refine jz ?_ | refine jy rfl ?_)
  · have : i = n := by omega
    subst this
    repeat (first | refine js ?_ | refine jb ?_)
    refine jr ?_
    refine jS (rt_bin_to rfl rfl (fun w => run_lti w _ _ _ _ _ _) (vbool (decide_eq_false (by first | assumption | omega)))) ?_
    refine RG.nil (by kernel_rfl) ?_
    repeat (first | refine js ?_ | refine jb ?_)
    refine WpD.condF rfl ?_
    repeat (first | refine js ?_ | refine jb ?_)
    refine WpD.exit ?_
    repeat (first | refine js ?_ | refine jb ?_)
    refine jr ?_
    refine ja rfl ?_
    refine RG.nil (by kernel_rfl) ?_
    repeat (first | refine js ?_ | refine jb ?_)
    refine WpD.ret ?_
    exact ret1 rfl (.tmp rfl) (PLe.refl _)
theorem oaccept (p : Int) (f : Nat → Co) (n : Nat) (H : OddL f n) (hp : smP p = true) (h3 : 3 ≤ p) : Fn Tryz.prog TabD 56 [locP p f n] (ex (.bool true)) := by
  have C1 := svalid p f n H hp h3
  unfold locP at C1 ⊢
  refine fn_of_body Tryz.func56 rfl Tryz.ntmps56 rfl ?_
  intro w0 h0
  repeat (first | refine js ?_ | refine jb ?_)
  refine jr ?_
  refine jT (ru_boxR rfl rfl rfl) ?_
  refine ja rfl ?_
  refine RG.nil (by kernel_rfl) ?_
  repeat (first | refine js ?_ | refine jb ?_)
  refine jr ?_
  refine jS (ru_fieldAddr rfl rfl) ?_
  refine jS (ru_load1 rfl rfl rfl) ?_
  refine jS (rt_bin_to rfl rfl (fun w => run_eqi w _ _ _ _ _ _) (vbool (beqF (by first | assumption | omega)))) ?_
  refine RG.nil (by kernel_rfl) ?_
  repeat (first | refine js ?_ | refine jb ?_)
  refine WpD.condF rfl ?_
  repeat (first | refine js ?_ | refine jb ?_)
  refine WpD.skip ?_
  repeat (first | refine js ?_ | refine jb ?_)
  refine jr ?_
  refine jS (ru_loadR rfl rfl rfl rfl) ?_
  refine jS (ru_call C1 ⟨rfl, trivial⟩) ?_
  refine ja rfl ?_
  refine RG.nil (by kernel_rfl) ?_
  repeat (first | refine js ?_ | refine jb ?_)
  refine WpD.ret ?_
  exact ret1 rfl (.tmp rfl) (PLe.refl _)
end Go.Proofs.YtpiflllcjgpkhaaGreatDoor

/- Sums and products that are turned round; the mass of a symbol at an odd prime and of its dual. Plain. -/
namespace Go.Proofs.YtpiflllcjgpkhaaGreatDoor
open Limb Num
def pr (D : Nat → Rat) : Nat → Rat
  | 0 => 1
  | k + 1 => pr D k * D k
theorem pr_front (D : Nat → Rat) : ∀ k, pr D (k + 1) = D 0 * pr (fun i => D (i + 1)) k
  | 0 => by show 1 * D 0 = D 0 * 1; rw [Rat.one_mul, Rat.mul_one]
  | k + 1 => by
    show pr D (k + 1) * D (k + 1) = D 0 * (pr (fun i => D (i + 1)) k * D (k + 1))
    rw [pr_front D k, Rat.mul_assoc]
theorem pr_congr {D E : Nat → Rat} : ∀ {n : Nat}, (∀ i, i < n → D i = E i) → pr D n = pr E n
  | 0, _ => rfl
  | n + 1, h => by
    show pr D n * D n = pr E n * E n
    rw [pr_congr fun i hi => h i (by omega), h n (by omega)]
theorem pr_rev (D : Nat → Rat) : ∀ n, pr (fun i => D (n - 1 - i)) n = pr D n
  | 0 => rfl
  | n + 1 => by
    rw [pr_front D n, ← pr_rev (fun i => D (i + 1)) n]
    show pr (fun i => D (n + 1 - 1 - i)) n * D (n + 1 - 1 - n) = _
    rw [show n + 1 - 1 - n = 0 by omega, Rat.mul_comm]
    congr 1
    exact pr_congr fun i hi => by rw [show n + 1 - 1 - i = n - 1 - i + 1 by omega]
def sm1 (t : Nat → Int) : Nat → Int
  | 0 => 0
  | k + 1 => sm1 t k + t k
theorem sm1_front (t : Nat → Int) : ∀ k, sm1 t (k + 1) = t 0 + sm1 (fun i => t (i + 1)) k
  | 0 => by show 0 + t 0 = t 0 + 0; omega
  | k + 1 => by
    show sm1 t (k + 1) + t (k + 1) = t 0 + (sm1 (fun i => t (i + 1)) k + t (k + 1))
    rw [sm1_front t k]
    omega
theorem sm1_congr {t u : Nat → Int} : ∀ {n : Nat}, (∀ i, i < n → t i = u i) → sm1 t n = sm1 u n
  | 0, _ => rfl
  | n + 1, h => by
    show sm1 t n + t n = sm1 u n + u n
    rw [sm1_congr fun i hi => h i (by omega), h n (by omega)]
theorem sm1_rev (t : Nat → Int) : ∀ n, sm1 (fun i => t (n - 1 - i)) n = sm1 t n
  | 0 => rfl
  | n + 1 => by
    rw [sm1_front t n, ← sm1_rev (fun i => t (i + 1)) n]
    show sm1 (fun i => t (n + 1 - 1 - i)) n + t (n + 1 - 1 - n) = _
    rw [show n + 1 - 1 - n = 0 by omega, Int.add_comm]
    congr 1
    exact sm1_congr fun i hi => by rw [show n + 1 - 1 - i = n - 1 - i + 1 by omega]
def sm2 (t : Nat → Nat → Int) : Nat → Int
  | 0 => 0
  | j + 1 => sm2 t j + sm1 (fun i => t i j) j
theorem sm2_congr {t u : Nat → Nat → Int} : ∀ {n : Nat}, (∀ i j, i < j → j < n → t i j = u i j) → sm2 t n = sm2 u n
  | 0, _ => rfl
  | n + 1, h => by
    show sm2 t n + _ = sm2 u n + _
    rw [sm2_congr fun i j hi hj => h i j hi (by omega), sm1_congr fun i hi => h i n hi (by omega)]
theorem sm2_front (t : Nat → Nat → Int) : ∀ n, sm2 t (n + 1) = sm2 (fun i j => t (i + 1) (j + 1)) n + sm1 (fun j => t 0 (j + 1)) n
  | 0 => rfl
  | n + 1 => by
    have ih := sm2_front t n
    have h1 : sm2 t (n + 1 + 1) = sm2 t (n + 1) + sm1 (fun i => t i (n + 1)) (n + 1) := rfl
    have h2 : sm2 (fun i j => t (i + 1) (j + 1)) (n + 1) = sm2 (fun i j => t (i + 1) (j + 1)) n + sm1 (fun i => t (i + 1) (n + 1)) n := rfl
    have h3 : sm1 (fun j => t 0 (j + 1)) (n + 1) = sm1 (fun j => t 0 (j + 1)) n + t 0 (n + 1) := rfl
    have h4 := sm1_front (fun i => t i (n + 1)) n
    omega
theorem sm2_rev : ∀ (n : Nat) (t : Nat → Nat → Int), sm2 (fun i j => t (n - 1 - j) (n - 1 - i)) n = sm2 t n
  | 0, _ => rfl
  | n + 1, t => by
    rw [sm2_front t n, ← sm2_rev n (fun i j => t (i + 1) (j + 1)), ← sm1_rev (fun j => t 0 (j + 1)) n]
    show sm2 (fun i j => t (n + 1 - 1 - j) (n + 1 - 1 - i)) n + sm1 (fun i => t (n + 1 - 1 - n) (n + 1 - 1 - i)) n = _
    congr 1
    · exact sm2_congr fun i j hi hj => by rw [show n + 1 - 1 - j = n - 1 - j + 1 by omega, show n + 1 - 1 - i = n - 1 - i + 1 by omega]
    · exact sm1_congr fun i hi => by rw [show n + 1 - 1 - n = 0 by omega, show n + 1 - 1 - i = n - 1 - i + 1 by omega]
def trm (f : Nat → Co) (i j : Nat) : Int := ((f j).e - (f i).e) * (f i).d * (f j).d
theorem crI_sm (f : Nat → Co) (j : Nat) : ∀ i, crI f j i = sm1 (fun i => trm f i j) i
  | 0 => rfl
  | i + 1 => by rw [crI, crI_sm f j i]; rfl
theorem crH_sm (f : Nat → Co) : ∀ n, crH f n = sm2 (trm f) n
  | 0 => rfl
  | n + 1 => by rw [crH, crH_sm f n, crI_sm]; rfl
/-- The dual symbol. -/
def dua (f : Nat → Co) (n : Nat) (E : Int) : Nat → Co := fun i => ⟨E - (f (n - 1 - i)).e, (f (n - 1 - i)).d, (f (n - 1 - i)).s, (f (n - 1 - i)).o, (f (n - 1 - i)).y⟩
theorem crH_dua (f : Nat → Co) (n : Nat) (E : Int) : crH (dua f n E) n = crH f n := by
  rw [crH_sm, crH_sm, ← sm2_rev n (trm f)]
  refine sm2_congr fun i j hi hj => ?_
  show (E - (f (n - 1 - j)).e - (E - (f (n - 1 - i)).e)) * (f (n - 1 - i)).d * (f (n - 1 - j)).d = ((f (n - 1 - i)).e - (f (n - 1 - j)).e) * (f (n - 1 - j)).d * (f (n - 1 - i)).d
  rw [show E - (f (n - 1 - j)).e - (E - (f (n - 1 - i)).e) = (f (n - 1 - i)).e - (f (n - 1 - j)).e by omega, Int.mul_assoc, Int.mul_assoc, Int.mul_comm (f (n - 1 - i)).d]
theorem dsm_sm (f : Nat → Co) : ∀ n, dsm f n = sm1 (fun i => (f i).d) n
  | 0 => rfl
  | n + 1 => by rw [dsm, dsm_sm f n]; rfl
theorem dsm_dua (f : Nat → Co) (n : Nat) (E : Int) : dsm (dua f n E) n = dsm f n := by
  rw [dsm_sm, dsm_sm, ← sm1_rev (fun i => (f i).d) n]
  rfl
theorem oddL_dua {f : Nat → Co} {n : Nat} (H : OddL f n) {E : Int} (h1 : (f (n - 1)).e ≤ E) (h2 : E ≤ 60) : OddL (dua f n E) n := by
  have hn := H.n1
  have hl : ∀ i, i < n → n - 1 - i < n := fun i hi => by omega
  have hle : ∀ i, i < n → (f i).e ≤ (f (n - 1)).e := fun i hi => by
    rcases Nat.lt_or_ge i (n - 1) with h | h
    · exact Int.le_of_lt (H.up i (n - 1) h (by omega))
    · rw [show i = n - 1 by omega]; exact Int.le_refl _
  refine ⟨⟨H.n1, H.n8, fun i hi => ?_, fun i hi => ?_, fun i hi => H.d0 _ (hl i hi), fun i hi => H.d8 _ (hl i hi), fun i j hij hj => ?_⟩, fun i hi => ?_, fun i hi => H.sg _ (hl i hi), fun i hi => H.od _ (hl i hi), fun i hi => H.oy _ (hl i hi), by rw [dsm_dua]; exact H.sm⟩
  · show 0 ≤ E - (f (n - 1 - i)).e
    have := hle _ (hl i hi); omega
  · show E - (f (n - 1 - i)).e ≤ 100
    have := H.e0 _ (hl i hi); omega
  · show E - (f (n - 1 - i)).e < E - (f (n - 1 - j)).e
    have := H.up (n - 1 - j) (n - 1 - i) (by omega) (by omega); omega
  · show E - (f (n - 1 - i)).e ≤ 60
    have := H.e0 _ (hl i hi); omega
/-! The product over the exponents is the one over the constituents. -/
theorem spC_at {f : Nat → Co} {e : Int} {m : Nat} (hm : (f m).e = e) : ∀ {n : Nat}, m < n → (∀ i, i < n → (f i).e = e → i = m) → spC f e n = f m
  | 0, h, _ => by omega
  | n + 1, h, hu => by
    rw [spC]
    by_cases h1 : (f n).e = e
    · rw [if_pos h1, hu n (by omega) h1]
    · rw [if_neg h1]
      exact spC_at hm (by rcases Nat.lt_or_ge m n with h2 | h2; exact h2; rw [show m = n by omega] at hm; exact absurd hm h1) fun i hi => hu i (by omega)
theorem spC_no {f : Nat → Co} {e : Int} : ∀ {n : Nat}, (∀ i, i < n → (f i).e ≠ e) → spC f e n = ⟨e, 0, 1, false, 0⟩
  | 0, _ => rfl
  | n + 1, h => by rw [spC, if_neg (h n (by omega)), spC_no fun i hi => h i (by omega)]
def sdO (f : Nat → Co) (n : Nat) (e : Int) : Nat := (spC f e n).d.toNat
def ssO (p : Int) (f : Nat → Co) (n : Nat) (e : Int) : Int := spO p (spC f e n).d (spC f e n).s
def fac (p : Int) (f : Nat → Co) (i : Nat) : Rat := dia p (f i).d.toNat (spO p (f i).d (f i).s)
theorem mpr_pr {p : Int} {f : Nat → Co} {n : Nat} (H : OddL f n) (R : Rat) : ∀ k : Nat, ∃ m, m ≤ n ∧ (∀ i, i < m → (f i).e < (k : Int) - 1) ∧ (∀ i, m ≤ i → i < n → (k : Int) - 1 ≤ (f i).e) ∧ mpr p (sdO f n) (ssO p f n) R k = R * pr (fac p f) m
  | 0 => ⟨0, Nat.zero_le _, fun i hi => by omega, fun i _ hi => by have := H.e0 i hi; omega, by show R = R * 1; rw [Rat.mul_one]⟩
  | k + 1 => by
    obtain ⟨m, h1, h2, h3, h4⟩ := mpr_pr H R k
    have hun : ∀ i j, i < n → j < n → (f i).e = (f j).e → i = j := fun i j hi hj he => by
      rcases Nat.lt_trichotomy i j with h | h | h
      · have := H.up i j h hj; omega
      · exact h
      · have := H.up j i h hi; omega
    by_cases hm : m < n ∧ (f m).e = (k : Int) - 1
    · obtain ⟨hm1, hm2⟩ := hm
      have hs : spC f ((k : Int) - 1) n = f m := spC_at hm2 hm1 fun i hi he => hun i m hi hm1 (by rw [he, hm2])
      have hd := H.d0 m hm1
      refine ⟨m + 1, hm1, fun i hi => ?_, fun i hi1 hi2 => ?_, ?_⟩
      · rcases Nat.lt_or_ge i m with h | h
        · have := h2 i h; omega
        · rw [show i = m by omega]; omega
      · have := H.up m i (by omega) hi2; omega
      · rw [mpr]
        unfold sdO ssO
        rw [hs, if_pos (by omega)]
        show mpr p (sdO f n) (ssO p f n) R k * fac p f m = R * (pr (fac p f) m * fac p f m)
        rw [h4, Rat.mul_assoc]
    · have hs : spC f ((k : Int) - 1) n = ⟨(k : Int) - 1, 0, 1, false, 0⟩ := spC_no fun i hi he => by
        rcases Nat.lt_or_ge i m with h | h
        · have := h2 i h; omega
        · rcases Nat.lt_or_ge m i with h' | h'
          · have h5 := H.up m i h' hi
            have h6 := h3 m (Nat.le_refl _) (by omega)
            omega
          · rw [show i = m by omega] at he
            exact hm ⟨by omega, he⟩
      refine ⟨m, h1, fun i hi => by have := h2 i hi; omega, fun i hi1 hi2 => ?_, ?_⟩
      · have h5 := h3 i hi1 hi2
        rcases Int.lt_or_eq_of_le h5 with h6 | h6
        · omega
        · exfalso
          rcases Nat.lt_or_ge m i with h' | h'
          · have h7 := H.up m i h' hi2
            have h8 := h3 m (Nat.le_refl _) (by omega)
            omega
          · rw [show i = m by omega] at h6 hi2
            exact hm ⟨hi2, h6.symm⟩
      · rw [mpr]
        unfold sdO
        rw [hs, if_neg (fun h => by simp at h)]
        exact h4
theorem mass_dua {p : Int} {f : Nat → Co} {n : Nat} (H : OddL f n) {E : Int} (h1 : (f (n - 1)).e ≤ E) (h2 : E ≤ 60) (R : Rat) :
    mpr p (sdO (dua f n E) n) (ssO p (dua f n E) n) R (((dua f n E) (n - 1)).e.toNat + 3) = mpr p (sdO f n) (ssO p f n) R ((f (n - 1)).e.toNat + 3) := by
  have hn := H.n1
  have H2 := oddL_dua H h1 h2
  have key : ∀ {g : Nat → Co}, OddL g n → mpr p (sdO g n) (ssO p g n) R ((g (n - 1)).e.toNat + 3) = R * pr (fac p g) n := fun {g} G => by
    obtain ⟨m, k1, k2, k3, k4⟩ := mpr_pr (p := p) G R ((g (n - 1)).e.toNat + 3)
    rw [k4]
    have : m = n := by
      rcases Nat.lt_or_ge m n with h | h
      · have h5 := k3 (n - 1) (by omega) (by omega)
        have h6 := G.e0 (n - 1) (by omega)
        omega
      · omega
    rw [this]
  rw [key H2, key H, ← pr_rev (fac p f) n]
  rfl
end Go.Proofs.YtpiflllcjgpkhaaGreatDoor

/- The scene's symbols for odd primes. (With LT.skipU.) -/
namespace Go.Proofs.YtpiflllcjgpkhaaGreatDoor
open Go.RowKit Limb Num
instance crow_b5 : CRow Tryz.prog 89 5 := ⟨⟨_, Tryz.underlying89, rfl, by kernel_rfl⟩⟩
instance carr_b5 : CArr Tryz.prog 89 5 5 1 := ⟨Tryz.underlying89, by kernel_rfl⟩
theorem zero_b5 : ZeroOf Tryz.prog 89 [.int .u8 0, .int .u8 0, .int .u8 0, .int .u8 0, .int .u8 0] := ⟨by kernel_rfl, by simp [Value.oneCell']⟩
instance czero_b5 : CZero Tryz.prog 89 [.int .u8 0, .int .u8 0, .int .u8 0, .int .u8 0, .int .u8 0] := ⟨zero_b5⟩
instance cslice_b5 : CSlice Tryz.prog 38 89 := ⟨Tryz.underlying38⟩
instance celem_b5 : CElem Tryz.prog 38 89 5 := ⟨Tryz.underlying38, by kernel_rfl⟩
instance cone_b5s : COne Tryz.prog 38 := ⟨⟨_, Tryz.underlying38, rfl, by kernel_rfl⟩⟩
instance crow_sym : CRow Tryz.prog 40 2 := ⟨⟨_, Tryz.underlying40, rfl, by kernel_rfl⟩⟩
instance cfield_sym0 : CField Tryz.prog 40 0 0 := ⟨⟨_, _, Tryz.underlying40, rfl, rfl, by kernel_rfl⟩⟩
instance cfield_sym1 : CField Tryz.prog 40 1 1 := ⟨⟨_, _, Tryz.underlying40, rfl, rfl, by kernel_rfl⟩⟩
instance cbody53 : CBody Tryz.prog 53 := ⟨⟨_, Tryz.func53, rfl, by rfl⟩⟩
instance cbody29 : CBody Tryz.prog 29 := ⟨⟨_, Tryz.func29, rfl, by rfl⟩⟩
instance cbody13 : CBody Tryz.prog 13 := ⟨⟨_, Tryz.func13, rfl, by rfl⟩⟩
section
variable {P : Program} {En : Ev} {n : Nat} {sl : Sl} {bx : Bx} {dst : Option Tmp} {ty : TypeId} {pos : String} {after : Array Edge} {guard : Option (Nat × Bool)}
theorem rt_min {x y : Operand} {k : IntKind} {a b : Int} {T : TypeId} (hx : osd sl x = some (.one (ex (.int k a)))) (hy : osd sl y = some (.one (ex (.int k b)))) {m : Int} (hm : (if b < a then b else a) = m) : RT P En n ⟨dst, .call ⟨.builtin .min, #[x, y], #[T, T]⟩, ty, pos, after, guard⟩ sl bx ⟨.one (ex (.int k m)), [], []⟩ :=
  RT.pure fun ρ h β bx' H => by
    subst hm
    have h1 : ρ x = .int k a := (H x (by simp [Op.operands, Call.operands]) _ hx).1
    have h2 : ρ y = .int k b := (H y (by simp [Op.operands, Call.operands]) _ hy).1
    refine ⟨_, fun w _ => ?_, rfl, trivial⟩
    simp [execOp, resolve, invoke, builtin, Builtin.min_, Builtin.min2, h1, h2]
end
/-- A part: five bytes. -/
structure By where
  b : Nat → Int
  lo : ∀ j, 0 ≤ b j
  hi : ∀ j, b j ≤ 255
def byc (x : By) : List Pd := [ex (.int .u8 (x.b 0)), ex (.int .u8 (x.b 1)), ex (.int .u8 (x.b 2)), ex (.int .u8 (x.b 3)), ex (.int .u8 (x.b 4))]
def bys (x : Nat → By) : Nat → List Pd := fun i => byc (x i)
theorem bys_len (x : Nat → By) (i : Nat) : (bys x i).length = 5 := rfl
def mn3 (r : Int) : Int := if r < 3 then r else 3
section
variable (En : Ev)
theorem scons (x : By) (e r : Int) (hr : 1 ≤ r) (hr2 : r ≤ 8) : Fn Tryz.prog En 53 [aggP (byc x), ex (.int .i64 e), ex (.int .i64 r), ex (.bool false)] (aggP (coc ⟨e, 1 + x.b 1 % mn3 r, 1 - 2 * (x.b 2 % 2), false, 0⟩)) := by
  have a1 := x.lo 1
  have a2 := x.hi 1
  have a3 := x.lo 2
  have a4 := x.hi 2
  have hm1 : 1 ≤ mn3 r := by unfold mn3; split <;> omega
  have hm2 : mn3 r ≤ 3 := by unfold mn3; split <;> omega
  have hmn : (if r < 3 then r else 3) = mn3 r := rfl
  generalize mn3 r = q at *
  have hq0 : q ≠ 0 := by omega
  have r1 := Int.emod_nonneg (x.b 1) hq0
  have r2 := Int.emod_lt_of_pos (x.b 1) (show 0 < q by omega)
  have w1 : IntKind.i64.wrap (x.b 1) = x.b 1 := w64 (by omega) (by omega)
  have w2 : (x.b 1).tmod q = x.b 1 % q := Int.tmod_eq_emod_of_nonneg a1
  have w3 : IntKind.i64.wrap (1 + x.b 1 % q) = 1 + x.b 1 % q := w64 (by omega) (by omega)
  have w4 : (x.b 2).tmod 2 = x.b 2 % 2 := Int.tmod_eq_emod_of_nonneg a3
  have w5 : IntKind.i64.wrap (x.b 2 % 2) = x.b 2 % 2 := w64 (by omega) (by omega)
  have w6 : IntKind.i64.wrap (2 * (x.b 2 % 2)) = 2 * (x.b 2 % 2) := w64 (by omega) (by omega)
  have w7 : IntKind.i64.wrap (1 - 2 * (x.b 2 % 2)) = 1 - 2 * (x.b 2 % 2) := w64 (by omega) (by omega)
  unfold byc coc
  dsimp only
  refine fn_of_body Tryz.func53 rfl Tryz.ntmps53 rfl ?_
  intro w0 h0
  repeat (first | refine js ?_ | refine jb ?_)
  refine jr ?_
  refine jT (ru_boxR rfl rfl rfl) ?_
  refine jT (ru_alloc rfl rfl rfl) ?_
  refine RG.nil (by kernel_rfl) ?_
  repeat (first | refine js ?_ | refine jb ?_)
  refine jr ?_
  refine jm rfl ?_
  refine jS (ru_indexArr (i := 1) rfl rfl (by decide) rfl) ?_
  refine jS (ru_load1 rfl rfl rfl) ?_
  refine jS (rt_conv_to rfl (fun w => run_convi w CInt.ok CInt.ok _ _) (vint w1)) ?_
  refine jm rfl ?_
  refine jS (rt_min rfl rfl hmn) ?_
  refine jS (rt_bin_to rfl rfl (fun w => run_remi w _ _ _ _ _ _ (by first | decide | omega | assumption)) (vint w2)) ?_
  refine jS (rt_bin_to rfl rfl (fun w => run_addi w _ _ _ _ _ _) (vint w3)) ?_
  refine jS (ru_indexArr (i := 2) rfl rfl (by decide) rfl) ?_
  refine jS (ru_load1 rfl rfl rfl) ?_
  refine jS (rt_bin_to rfl rfl (fun w => run_remi w _ _ _ _ _ _ (by first | decide | omega | assumption)) (vint w4)) ?_
  refine jS (rt_conv_to rfl (fun w => run_convi w CInt.ok CInt.ok _ _) (vint w5)) ?_
  refine jS (rt_bin_to rfl rfl (fun w => run_muli w _ _ _ _ _ _) (vint w6)) ?_
  refine jS (rt_bin_to rfl rfl (fun w => run_subi w _ _ _ _ _ _) (vint w7)) ?_
  refine jS (ru_build (ps := [(_, _), (_, _), (_, _)]) ⟨rfl, Part.c rfl, rfl, Part.c rfl, rfl, Part.c rfl, trivial⟩ rfl) ?_
  refine jT (ru_alloc rfl rfl rfl) ?_
  refine jO (ru_storeR rfl rfl rfl rfl rfl rfl) ?_
  refine RG.nil (by kernel_rfl) ?_
  repeat (first | refine js ?_ | refine jb ?_)
  refine jr ?_
  refine jm rfl ?_
  refine RG.nil (by kernel_rfl) ?_
  repeat (first | refine js ?_ | refine jb ?_)
  refine WpD.condF rfl ?_
  repeat (first | refine js ?_ | refine jb ?_)
  refine WpD.skip ?_
  repeat (first | refine js ?_ | refine jb ?_)
  refine jr ?_
  refine jS (ru_loadR rfl rfl rfl rfl) ?_
  refine jO (ru_storeR rfl rfl rfl rfl rfl rfl) ?_
  refine RG.nil (by kernel_rfl) ?_
  repeat (first | refine js ?_ | refine jb ?_)
  refine WpD.ret ?_
  exact ret1 rfl (.cell rfl rfl CRow.ok rfl) (PLe.refl _)
end
/-- Dimensions and exponents so far. -/
def sn (x : Nat → By) : Nat → Int
  | 0 => 0
  | i + 1 => sn x i + (1 + (x i).b 1 % mn3 (8 - sn x i))
def se (x : Nat → By) : Nat → Int
  | 0 => -1
  | i + 1 => se x i + (1 + (x i).b 0 % 4 % 3)
def sf (x : Nat → By) (i : Nat) : Co := ⟨se x (i + 1), 1 + (x i).b 1 % mn3 (8 - sn x i), 1 - 2 * ((x i).b 2 % 2), false, 0⟩
theorem dm_bd (x : By) {r : Int} (h : 1 ≤ r) : 0 ≤ x.b 1 % mn3 r ∧ 1 + x.b 1 % mn3 r ≤ 3 ∧ 1 + x.b 1 % mn3 r ≤ r := by
  have hm : 1 ≤ mn3 r ∧ mn3 r ≤ 3 ∧ mn3 r ≤ r := by unfold mn3; split <;> omega
  have r1 := Int.emod_nonneg (x.b 1) (show mn3 r ≠ 0 by omega)
  have r2 := Int.emod_lt_of_pos (x.b 1) (show 0 < mn3 r by omega)
  omega
theorem sn_bd (x : Nat → By) : ∀ {i : Nat}, (∀ j, j < i → sn x j < 8) → (i : Int) ≤ sn x i ∧ sn x i ≤ 8
  | 0, _ => by simp [sn]
  | i + 1, h => by
    have ih := sn_bd x (i := i) fun j hj => h j (by omega)
    have h1 := h i (by omega)
    have h2 := dm_bd (x i) (r := 8 - sn x i) (by omega)
    rw [sn]
    omega
theorem se_bd (x : Nat → By) : ∀ i : Nat, (i : Int) - 1 ≤ se x i ∧ se x i ≤ 3 * (i : Int) - 1
  | 0 => by simp [se]
  | i + 1 => by
    have ih := se_bd x i
    rw [se]
    omega
def cntF (x : Nat → By) (m : Nat) : Nat → Nat → Nat
  | 0, i => i
  | u + 1, i => if i < m ∧ sn x i < 8 then cntF x m u (i + 1) else i
theorem cntF_eq {x : Nat → By} {m i : Nat} (hs : ¬ (i < m ∧ sn x i < 8)) : ∀ {u k : Nat}, k ≤ i → i ≤ k + u → (∀ j, j < i → j < m ∧ sn x j < 8) → cntF x m u k = i
  | 0, k, h1, h2, _ => by rw [cntF]; omega
  | u + 1, k, h1, h2, h => by
    rw [cntF]
    by_cases hk : k = i
    · rw [hk, if_neg hs]
    · rw [if_pos (h k (by omega))]
      exact cntF_eq hs (by omega) (by omega) h
/-- The symbol that the parts give. -/
def scN (x : Nat → By) (m : Nat) : Nat := if m = 0 then 1 else cntF x m m 0
def scF (x : Nat → By) (m : Nat) : Nat → Co := if m = 0 then (fun _ => ⟨0, 1, 1, false, 0⟩) else sf x
theorem cnt_ok (x : Nat → By) (m : Nat) : ∃ i, i ≤ m ∧ (∀ j, j < i → j < m ∧ sn x j < 8) ∧ ¬ (i < m ∧ sn x i < 8) := by
  have : ∀ u k, k + u = m → (∀ j, j < k → j < m ∧ sn x j < 8) → ∃ i, i ≤ m ∧ (∀ j, j < i → j < m ∧ sn x j < 8) ∧ ¬ (i < m ∧ sn x i < 8) := by
    intro u
    induction u with
    | zero => exact fun k hk h => ⟨k, by omega, h, by omega⟩
    | succ u ih =>
      intro k hk h
      by_cases hc : k < m ∧ sn x k < 8
      · refine ih (k + 1) (by omega) fun j hj => ?_
        rcases Nat.lt_or_ge j k with h' | h'
        · exact h j h'
        · rw [show j = k by omega]; exact hc
      · exact ⟨k, by omega, h, hc⟩
  exact this m 0 (by omega) fun j hj => by omega
theorem dsm_sn (x : Nat → By) : ∀ i, dsm (sf x) i = sn x i
  | 0 => rfl
  | i + 1 => by rw [dsm, dsm_sn x i]; rfl
theorem scOdd (x : Nat → By) (m : Nat) : OddL (scF x m) (scN x m) := by
  by_cases hm : m = 0
  · unfold scF scN
    rw [if_pos hm, if_pos hm]
    exact ⟨⟨by omega, by omega, fun _ _ => by show (0 : Int) ≤ 0; omega, fun _ _ => by show (0 : Int) ≤ 100; omega, fun _ _ => by show (1 : Int) ≤ 1; omega, fun _ _ => by show (1 : Int) ≤ 8; omega, fun i j h1 h2 => by omega⟩,
      fun _ _ => by show (0 : Int) ≤ 60; omega, fun _ _ => .inl rfl, fun _ _ => rfl, fun _ _ => rfl, by show (0 : Int) + 1 ≤ 8; omega⟩
  · obtain ⟨i, h1, h2, h3⟩ := cnt_ok x m
    have hc : scN x m = i := by unfold scN; rw [if_neg hm]; exact cntF_eq h3 (by omega) (by omega) h2
    rw [hc]
    unfold scF
    rw [if_neg hm]
    have hi1 : 1 ≤ i := by
      rcases Nat.lt_or_ge i 1 with h | h
      · rw [show i = 0 by omega] at h3
        exact absurd ⟨by omega, by show (0 : Int) < 8; omega⟩ h3
      · exact h
    have hlt : ∀ j, j < i → sn x j < 8 := fun j hj => (h2 j hj).2
    have hi8 : i ≤ 8 := by
      have a1 := sn_bd x (i := i - 1) fun j hj => hlt j (by omega)
      have a2 := hlt (i - 1) (by omega)
      omega
    have hup : ∀ u a, (sf x a).e < (sf x (a + 1 + u)).e := by
      intro u
      induction u with
      | zero =>
        intro a
        show se x (a + 1) < se x (a + 1 + 1)
        rw [se.eq_2 x (a + 1)]
        omega
      | succ u ih =>
        intro a
        have := ih a
        have h5 : se x (a + 1 + u + 1 + 1) = se x (a + 1 + u + 1) + (1 + (x (a + 1 + u + 1)).b 0 % 4 % 3) := rfl
        show se x (a + 1) < se x (a + 1 + u + 1 + 1)
        have h6 : se x (a + 1) < se x (a + 1 + u + 1) := this
        omega
    refine ⟨⟨hi1, hi8, fun j hj => ?_, fun j hj => ?_, fun j hj => ?_, fun j hj => ?_, fun a b hab hb => ?_⟩, fun j hj => ?_, fun j hj => ?_, fun _ _ => rfl, fun _ _ => rfl, ?_⟩
    · show 0 ≤ se x (j + 1)
      have := (se_bd x (j + 1)).1; omega
    · show se x (j + 1) ≤ 100
      have := (se_bd x (j + 1)).2; omega
    · show 1 ≤ 1 + (x j).b 1 % mn3 (8 - sn x j)
      have := dm_bd (x j) (r := 8 - sn x j) (by have := hlt j hj; omega); omega
    · show 1 + (x j).b 1 % mn3 (8 - sn x j) ≤ 8
      have := dm_bd (x j) (r := 8 - sn x j) (by have := hlt j hj; omega); omega
    · have := hup (b - a - 1) a
      rwa [show a + 1 + (b - a - 1) = b by omega] at this
    · show se x (j + 1) ≤ 60
      have := (se_bd x (j + 1)).2; omega
    · show 1 - 2 * ((x j).b 2 % 2) = 1 ∨ 1 - 2 * ((x j).b 2 % 2) = -1
      omega
    · rw [dsm_sn]
      exact (sn_bd x hlt).2
theorem sc_last (x : Nat → By) (m : Nat) : (scF x m (scN x m - 1)).e ≤ 23 := by
  have H := scOdd x m
  by_cases hm : m = 0
  · unfold scF
    rw [if_pos hm]
    show (0 : Int) ≤ 23
    omega
  · have h8 := H.n8
    have h1 := H.n1
    unfold scF
    rw [if_neg hm]
    show se x (scN x m - 1 + 1) ≤ 23
    have := (se_bd x (scN x m - 1 + 1)).2
    omega
set_option maxHeartbeats 1000000 in
theorem slist (En : Ev) (pk : Int) (x : Nat → By) (m : Nat) (hm : m ≤ 20) : Fn Tryz.prog En 29 [aggP [ex (.int .u8 pk), slc 5 (rows (bys x) m) m], ex (.int .i64 8), ex (.bool false)] (slc 5 (rows (ccs (scF x m)) (scN x m)) (scN x m)) := by
  refine fn_of_body Tryz.func29 rfl Tryz.ntmps29 rfl ?_
  intro w0 h0
  repeat (first | refine js ?_ | refine jb ?_)
  refine jr ?_
  refine jT (ru_boxR rfl rfl rfl) ?_
  refine ja rfl ?_
  refine RG.nil (by kernel_rfl) ?_
  repeat (first | refine js ?_ | refine jb ?_)
  refine jr ?_
  refine ja rfl ?_
  refine RG.nil (by kernel_rfl) ?_
  repeat (first | refine js ?_ | refine jb ?_)
  refine jr ?_
  refine ja rfl ?_
  refine ja rfl ?_
  refine RG.nil (by kernel_rfl) ?_
  repeat (first | refine js ?_ | refine jb ?_)
  refine jr ?_
  refine jS (ru_fieldAddr rfl rfl) ?_
  refine jS (ru_load1 rfl rfl rfl) ?_
  refine jS (ru_len rfl CSlice.ok) ?_
  refine jm rfl ?_
  refine RG.nil (by kernel_rfl) ?_
  repeat (first | refine js ?_ | refine jb ?_)
  refine WpD.loop (α := {i : Nat // i ≤ m ∧ ∀ j, j < i → j < m ∧ sn x j < 8}) (fun i => ⟨[(1, .one (ex (.int .i64 8))), (2, .one (ex (.bool false))), (7, .app 507 5 i.1), (8, .one (ex (.int .i64 (se x i.1)))), (9, .one (ex (.int .i64 (sn x i.1)))), (14, .one (slc 5 (rows (bys x) m) m)), (15, .one (ex (.int .i64 (m : Int)))), (16, .one (ex (.int .i64 (i.1 : Int))))], [(507, rows (ccs (sf x)) i.1), (757, [])]⟩) (fun i => m - i.1) ⟨0, Nat.zero_le _, fun j hj => by omega⟩ ?_ ?_
  · refine Sub.mk ?_ ?_
    · repeat (first | exact trivial | refine jv rfl ?_ | refine jw rfl (js0 rfl) ?_ | refine jw rfl ⟨js0 rfl, js0 rfl⟩ ?_ | refine jx rfl ⟨js0 rfl, js0 rfl⟩ ?_ | refine jw rfl (clo_live (js0 rfl) (js0 rfl)) ?_ | refine ⟨⟨_, rfl, PLe.refl _⟩, trivial, ?_⟩)
    · repeat (first | exact trivial | refine jz ?_ | refine jy rfl ?_)
  rintro ⟨i, hi, hc⟩
  dsimp only at hi hc ⊢
  have hb := sn_bd x (i := i) fun j hj => (hc j hj).2
  have hse := se_bd x i
  have w9 : IntKind.i64.wrap ((i : Int) + 1) = ((i + 1 : Nat) : Int) := by rw [w64 (by omega) (by omega)]; rfl
  have hlen := rows_len (ccs_len (sf x)) i
  by_cases hlt : i < m
  · have hq : ((rows (bys x) m).drop (i * 5)).take 5 = byc (x i) := rows_get (bys_len x) hlt
    by_cases h8 : sn x i < 8
    · have a1 := (x i).lo 0
      have a2 := (x i).hi 0
      have hd := dm_bd (x i) (r := 8 - sn x i) (by omega)
      have w1 : IntKind.i64.wrap ((x i).b 0) = (x i).b 0 := w64 (by omega) (by omega)
      have w2 : ((x i).b 0).tmod 4 = (x i).b 0 % 4 := Int.tmod_eq_emod_of_nonneg a1
      have w3 : ((x i).b 0 % 4).tmod 3 = (x i).b 0 % 4 % 3 := Int.tmod_eq_emod_of_nonneg (by omega)
      have w4 : IntKind.i64.wrap (1 + (x i).b 0 % 4 % 3) = 1 + (x i).b 0 % 4 % 3 := w64 (by omega) (by omega)
      have w5 : IntKind.i64.wrap (se x i + (1 + (x i).b 0 % 4 % 3)) = se x (i + 1) := w64 (by omega) (by omega)
      have w6 : IntKind.i64.wrap (8 - sn x i) = 8 - sn x i := w64 (by omega) (by omega)
      have w7 : IntKind.i64.wrap (sn x i + (1 + (x i).b 1 % mn3 (8 - sn x i))) = sn x (i + 1) := w64 (by omega) (by omega)
      have C1 := scons En (x i) (se x (i + 1)) (8 - sn x i) (by omega) (by omega)
      have hr : rows (ccs (sf x)) i ++ coc (sf x i) = rows (ccs (sf x)) (i + 1) := (rows_succ (ccs (sf x)) i).symm
      have hc' : ∀ j, j < i + 1 → j < m ∧ sn x j < 8 := fun j hj => by
        rcases Nat.lt_or_ge j i with h | h
        · exact hc j h
        · rw [show j = i by omega]; exact ⟨hlt, h8⟩
      repeat (first | refine js ?_ | refine jb ?_)
      refine jr ?_
      refine jS (rt_bin_to rfl rfl (fun w => run_lti w _ _ _ _ _ _) (vbool (decide_eq_true (by first | assumption | omega)))) ?_
      refine RG.nil (by kernel_rfl) ?_
      repeat (first | refine js ?_ | refine jb ?_)
      refine WpD.condT rfl ?_
      repeat (first | refine js ?_ | refine jb ?_)
      refine WpD.skip ?_
      repeat (first | refine js ?_ | refine jb ?_)
      refine jr ?_
      refine jS (rc_indexS rfl rfl hlt hq) ?_
      refine jS (rc_loadR rfl rfl rfl) ?_
      refine jT (ru_alloc rfl rfl rfl) ?_
      refine jO (ru_storeR rfl rfl rfl rfl rfl rfl) ?_
      refine RG.nil (by kernel_rfl) ?_
      repeat (first | refine js ?_ | refine jb ?_)
      refine jr ?_
      refine jm rfl ?_
      refine jm rfl ?_
      refine jS (rt_bin_to rfl rfl (fun w => run_gei w _ _ _ _ _ _) (vbool (decide_eq_false (by first | assumption | omega)))) ?_
      refine RG.nil (by kernel_rfl) ?_
      repeat (first | refine js ?_ | refine jb ?_)
      refine WpD.condF rfl ?_
      repeat (first | refine js ?_ | refine jb ?_)
      refine WpD.skip ?_
      repeat (first | refine js ?_ | refine jb ?_)
      refine jr ?_
      refine jm rfl ?_
      refine jS (ru_indexArr (i := 0) rfl rfl (by decide) rfl) ?_
      refine jS (ru_load1 rfl rfl rfl) ?_
      refine jS (rt_conv_to rfl (fun w => run_convi w CInt.ok CInt.ok _ _) (vint w1)) ?_
      refine jS (rt_bin_to rfl rfl (fun w => run_remi w _ _ _ _ _ _ (by first | decide | omega | assumption)) (vint w2)) ?_
      refine jS (rt_bin_to rfl rfl (fun w => run_remi w _ _ _ _ _ _ (by first | decide | omega | assumption)) (vint w3)) ?_
      refine jS (rt_bin_to rfl rfl (fun w => run_addi w _ _ _ _ _ _) (vint w4)) ?_
      refine jS (rt_bin_to rfl rfl (fun w => run_addi w _ _ _ _ _ _) (vint w5)) ?_
      refine ja rfl ?_
      refine RG.nil (by kernel_rfl) ?_
      repeat (first | refine js ?_ | refine jb ?_)
      refine jr ?_
      refine jS (ru_loadR rfl rfl rfl rfl) ?_
      refine jm rfl ?_
      refine jm rfl ?_
      refine jm rfl ?_
      refine jS (rt_bin_to rfl rfl (fun w => run_subi w _ _ _ _ _ _) (vint w6)) ?_
      refine jm rfl ?_
      refine jS (ru_call C1 ⟨rfl, rfl, rfl, rfl, trivial⟩) ?_
      refine jT (ru_alloc rfl rfl rfl) ?_
      refine jO (ru_storeR rfl rfl rfl rfl rfl rfl) ?_
      refine RG.nil (by kernel_rfl) ?_
      repeat (first | refine js ?_ | refine jb ?_)
      refine jr ?_
      refine jm rfl ?_
      refine jS (ru_fieldAddr rfl rfl) ?_
      refine jS (ru_load1 rfl rfl rfl) ?_
      refine jS (rt_bin_to rfl rfl (fun w => run_addi w _ _ _ _ _ _) (vint w7)) ?_
      refine ja rfl ?_
      refine RG.nil (by kernel_rfl) ?_
      repeat (first | refine js ?_ | refine jb ?_)
      refine jr ?_
      refine jm rfl ?_
      refine jS (ru_loadR rfl rfl rfl rfl) ?_
      refine jS (rc_buildR (ps := [(_, _)]) ⟨rfl, Part.c rfl, trivial⟩ rfl rfl rfl) ?_
      refine RG.SW (LT.plain rfl (ru_appendA 545 rfl rfl hlen rfl (by omega) (by omega) rfl rfl rfl rfl rfl hr)) rfl ?_
      refine ja rfl ?_
      refine RG.nil (by kernel_rfl) ?_
      repeat (first | refine js ?_ | refine jb ?_)
      refine jr ?_
      refine jS (rt_bin_to rfl rfl (fun w => run_addi w _ _ _ _ _ _) (vint w9)) ?_
      refine jm rfl ?_
      refine RG.nil (by kernel_rfl) ?_
      refine ⟨⟨i + 1, by omega, hc'⟩, ?_, by dsimp only; omega⟩
      refine Sub.ren 507 545 rfl ?_ ?_ rfl
      · repeat (first | exact trivial | refine ⟨.inl ⟨⟨_, rfl, PLe.refl _⟩, trivial, trivial⟩, ?_⟩ | refine ⟨.inr ⟨_, _, rfl, .inl rfl, ⟨Option.some_ne_none _, Option.some_ne_none _⟩⟩, ?_⟩ | refine ⟨.inl ⟨⟨_, rfl, rfl⟩, Option.some_ne_none _, ⟨(by decide), (by decide)⟩⟩, ?_⟩ | refine ⟨.inl ⟨⟨_, rfl, rfl⟩, ⟨Option.some_ne_none _, Option.some_ne_none _⟩, ⟨(by decide), (by decide), (by decide), (by decide)⟩⟩, ?_⟩ | refine ⟨.inl ⟨⟨_, rfl, rfl⟩, clo_live (Option.some_ne_none _) (Option.some_ne_none _), clo_avoid (by decide) (by decide) (by decide) (by decide)⟩, ?_⟩ | refine ⟨.inr ⟨_, _, rfl, .inr ⟨(by omega), rfl⟩, Option.some_ne_none _⟩, ?_⟩)
      · repeat (first | exact trivial | refine ⟨.inr ⟨(by decide), .inr rfl⟩, ?_⟩ | refine ⟨.inl ⟨rfl, _, rfl, PsLe.refl _⟩, ?_⟩ | refine ⟨.inr ⟨(by decide), .inl ⟨(by decide), _, rfl, PsLe.refl _⟩⟩, ?_⟩)
    · have hn := cntF_eq (x := x) (m := m) (i := i) (fun h => h8 h.2) (u := m) (k := 0) (by omega) (by omega) hc
      have hm0 : m ≠ 0 := by omega
      have e1 : scN x m = i := by unfold scN; rw [if_neg hm0]; exact hn
      have e2 : scF x m = sf x := by unfold scF; rw [if_neg hm0]
      rw [e1, e2]
      repeat (first | refine js ?_ | refine jb ?_)
      refine jr ?_
      refine jS (rt_bin_to rfl rfl (fun w => run_lti w _ _ _ _ _ _) (vbool (decide_eq_true (by first | assumption | omega)))) ?_
      refine RG.nil (by kernel_rfl) ?_
      repeat (first | refine js ?_ | refine jb ?_)
      refine WpD.condT rfl ?_
      repeat (first | refine js ?_ | refine jb ?_)
      refine WpD.skip ?_
      repeat (first | refine js ?_ | refine jb ?_)
      refine jr ?_
      refine jS (rc_indexS rfl rfl hlt hq) ?_
      refine jS (rc_loadR rfl rfl rfl) ?_
      refine jT (ru_alloc rfl rfl rfl) ?_
      refine jO (ru_storeR rfl rfl rfl rfl rfl rfl) ?_
      refine RG.nil (by kernel_rfl) ?_
      repeat (first | refine js ?_ | refine jb ?_)
      refine jr ?_
      refine jm rfl ?_
      refine jm rfl ?_
      refine jS (rt_bin_to rfl rfl (fun w => run_gei w _ _ _ _ _ _) (vbool (decide_eq_true (by first | assumption | omega)))) ?_
      refine RG.nil (by kernel_rfl) ?_
      repeat (first | refine js ?_ | refine jb ?_)
      refine WpD.condT rfl ?_
      repeat (first | refine js ?_ | refine jb ?_)
      refine WpD.exit ?_
      repeat (first | refine js ?_ | refine jb ?_)
      refine jr ?_
      refine jm rfl ?_
      refine jS (rt_bin_to rfl rfl (fun w => run_eqi w _ _ _ _ _ _) (vbool (beqF (by first | assumption | omega)))) ?_
      refine RG.nil (by kernel_rfl) ?_
      repeat (first | refine js ?_ | refine jb ?_)
      refine WpD.condF rfl ?_
      repeat (first | refine js ?_ | refine jb ?_)
      refine WpD.skip ?_
      repeat (first | refine js ?_ | refine jb ?_)
      refine WpD.sub (τ := ⟨[(7, .one (slc 5 (rows (ccs (sf x)) i) i))], []⟩) ?_ ?_
      · refine Sub.pub 507 rfl rfl ⟨.inr (.inr (.inl ⟨_, _, _, rfl, rfl, hlen, PLe.refl _⟩)), trivial⟩ trivial rfl

      repeat (first | refine js ?_ | refine jb ?_)
      refine jr ?_
      refine jm rfl ?_
      refine ja rfl ?_
      refine RG.nil (by kernel_rfl) ?_
      repeat (first | refine js ?_ | refine jb ?_)
      refine WpD.ret ?_
      exact ret1 rfl (.tmp rfl) (PLe.refl _)
  · have him : i = m := by omega
    have hn := cntF_eq (x := x) (m := m) (i := i) (fun h => hlt h.1) (u := m) (k := 0) (by omega) (by omega) hc
    by_cases hm0 : m = 0
    · have hi0 : i = 0 := by omega
      subst hi0
      have e1 : scN x m = 1 := by unfold scN; rw [if_pos hm0]
      have e2 : scF x m = fun _ => ⟨0, 1, 1, false, 0⟩ := by unfold scF; rw [if_pos hm0]
      rw [e1, e2]
      have C1 := scons En ⟨fun _ => 0, fun _ => by omega, fun _ => by omega⟩ 0 1 (by omega) (by omega)
      have hsn : sn x 0 = 0 := rfl
      have hlen0 : (rows (ccs (sf x)) 0).length = 0 * 5 := hlen
      have hr : rows (ccs (sf x)) 0 ++ coc ⟨0, 1 + 0 % mn3 1, 1 - 2 * (0 % 2), false, 0⟩ = rows (ccs (fun _ => ⟨0, 1, 1, false, 0⟩)) 1 := rfl
      repeat (first | refine js ?_ | refine jb ?_)
      refine jr ?_
      refine jS (rt_bin_to rfl rfl (fun w => run_lti w _ _ _ _ _ _) (vbool (decide_eq_false (by first | assumption | omega)))) ?_
      refine RG.nil (by kernel_rfl) ?_
      repeat (first | refine js ?_ | refine jb ?_)
      refine WpD.condF rfl ?_
      repeat (first | refine js ?_ | refine jb ?_)
      refine WpD.exit ?_
      repeat (first | refine js ?_ | refine jb ?_)
      refine jr ?_
      refine jm rfl ?_
      refine jS (rt_bin_to rfl rfl (fun w => run_eqi w _ _ _ _ _ _) (vbool (beqT (by first | assumption | omega)))) ?_
      refine RG.nil (by kernel_rfl) ?_
      repeat (first | refine js ?_ | refine jb ?_)
      refine WpD.condT rfl ?_
      repeat (first | refine js ?_ | refine jb ?_)
      refine jr ?_
      refine jm rfl ?_
      refine jS (ru_buildArr (ps := []) trivial rfl) ?_
      refine jm rfl ?_
      refine jS (ru_call C1 ⟨rfl, rfl, rfl, rfl, trivial⟩) ?_
      refine jS (rc_buildR (ps := [(_, _)]) ⟨rfl, Part.c rfl, trivial⟩ rfl rfl rfl) ?_
      refine RG.SW (LT.plain rfl (ru_appendA 554 rfl rfl hlen0 rfl (by omega) (by omega) rfl rfl rfl rfl rfl hr)) rfl ?_
      refine ja rfl ?_
      refine RG.nil (by kernel_rfl) ?_
      repeat (first | refine js ?_ | refine jb ?_)
      refine WpD.sub (τ := ⟨[(7, .one (slc 5 (rows (ccs (fun _ => ⟨0, 1, 1, false, 0⟩)) 1) 1))], []⟩) ?_ ?_
      · refine Sub.pub 554 rfl rfl ⟨.inr (.inr (.inl ⟨_, _, _, rfl, rfl, rfl, PLe.refl _⟩)), trivial⟩ trivial rfl

      repeat (first | refine js ?_ | refine jb ?_)
      refine jr ?_
      refine jm rfl ?_
      refine ja rfl ?_
      refine RG.nil (by kernel_rfl) ?_
      repeat (first | refine js ?_ | refine jb ?_)
      refine WpD.ret ?_
      exact ret1 rfl (.tmp rfl) (PLe.refl _)
    · have e1 : scN x m = i := by unfold scN; rw [if_neg hm0]; exact hn
      have e2 : scF x m = sf x := by unfold scF; rw [if_neg hm0]
      rw [e1, e2]
      have hpos : sn x i ≠ 0 := by omega
      repeat (first | refine js ?_ | refine jb ?_)
      refine jr ?_
      refine jS (rt_bin_to rfl rfl (fun w => run_lti w _ _ _ _ _ _) (vbool (decide_eq_false (by first | assumption | omega)))) ?_
      refine RG.nil (by kernel_rfl) ?_
      repeat (first | refine js ?_ | refine jb ?_)
      refine WpD.condF rfl ?_
      repeat (first | refine js ?_ | refine jb ?_)
      refine WpD.exit ?_
      repeat (first | refine js ?_ | refine jb ?_)
      refine jr ?_
      refine jm rfl ?_
      refine jS (rt_bin_to rfl rfl (fun w => run_eqi w _ _ _ _ _ _) (vbool (beqF (by first | assumption | omega)))) ?_
      refine RG.nil (by kernel_rfl) ?_
      repeat (first | refine js ?_ | refine jb ?_)
      refine WpD.condF rfl ?_
      repeat (first | refine js ?_ | refine jb ?_)
      refine WpD.skip ?_
      repeat (first | refine js ?_ | refine jb ?_)
      refine WpD.sub (τ := ⟨[(7, .one (slc 5 (rows (ccs (sf x)) i) i))], []⟩) ?_ ?_
      · refine Sub.pub 507 rfl rfl ⟨.inr (.inr (.inl ⟨_, _, _, rfl, rfl, hlen, PLe.refl _⟩)), trivial⟩ trivial rfl

      repeat (first | refine js ?_ | refine jb ?_)
      refine jr ?_
      refine jm rfl ?_
      refine ja rfl ?_
      refine RG.nil (by kernel_rfl) ?_
      repeat (first | refine js ?_ | refine jb ?_)
      refine WpD.ret ?_
      exact ret1 rfl (.tmp rfl) (PLe.refl _)
theorem slocal (En : Ev) (pk : Int) (x : Nat → By) (m : Nat) (hm : m ≤ 20) (k1 : 0 ≤ pk) (k2 : pk ≤ 255) : Fn Tryz.prog En 13 [aggP [ex (.int .u8 pk), slc 5 (rows (bys x) m) m], ex (.int .i64 8)] (locP (od8 (pk % 8).toNat : Int) (scF x m) (scN x m)) := by
  have C1 := fodd En pk k1 k2
  have C2 := slist En pk x m hm
  unfold locP
  refine fn_of_body Tryz.func13 rfl Tryz.ntmps13 rfl ?_
  intro w0 h0
  repeat (first | refine js ?_ | refine jb ?_)
  refine jr ?_
  refine jT (ru_boxR rfl rfl rfl) ?_
  refine jT (ru_alloc rfl rfl rfl) ?_
  refine RG.nil (by kernel_rfl) ?_
  repeat (first | refine js ?_ | refine jb ?_)
  refine jr ?_
  refine jS (ru_fieldAddr rfl rfl) ?_
  refine jS (ru_load1 rfl rfl rfl) ?_
  refine jS (ru_call C1 ⟨rfl, trivial⟩) ?_
  refine jS (ru_loadR rfl rfl rfl rfl) ?_
  refine jm rfl ?_
  refine jS (ru_call C2 ⟨rfl, rfl, rfl, trivial⟩) ?_
  refine jS (ru_build (ps := [(_, _), (_, _)]) ⟨rfl, Part.c rfl, rfl, Part.c rfl, trivial⟩ rfl) ?_
  refine jO (ru_storeR rfl rfl rfl rfl rfl rfl) ?_
  refine RG.nil (by kernel_rfl) ?_
  repeat (first | refine js ?_ | refine jb ?_)
  refine WpD.ret ?_
  exact ret1 rfl (.cell rfl rfl CRow.ok rfl) (PLe.refl _)
end Go.Proofs.YtpiflllcjgpkhaaGreatDoor

/- Regions whose operations run in the text's order, step by step; slices that lie in a struct's field and grow. For any program. -/
namespace Go.Proofs.YtpiflllcjgpkhaaGreatDoor
open Go.RowKit Limb
/-- Operations in the text's order. -/
def WpS (P : Program) (En : Ev) (n : Nat) (w0 : World) (h0 : GH) (c : Cx) (ops : Array Oper) (l : List Nat) (K : St → Prop) (σ : St) : Prop :=
  ∀ (Q : Exit → Act → World → Prop) (a : Act) (w : World), Gam En n w0 h0 c σ a w → (∀ τ a' w', K τ → Gam En n w0 h0 c τ a' w' → Q .normal a' w') → wpOps P ops Q l a w
section
variable {P : Program} {En : Ev} {n : Nat} {w0 : World} {h0 : GH} {c : Cx} {ops : Array Oper} {l : List Nat} {σ τ : St}
theorem WpD.seqR {id : Nat} {K : Exit → St → Prop} (h : WpS P En n w0 h0 c ops (List.range ops.size) (K .normal) σ) : WpD P En n w0 h0 c (.region id ops false) K σ :=
  fun Q a w hg hQ => wp_region (h Q a w hg fun τ a' w' hk hg' => hQ .normal τ a' w' hk hg')
variable {K : St → Prop}
theorem WpS.nil (h : K σ) : WpS P En n w0 h0 c ops [] K σ := fun _ a w hg hQ => hQ σ a w h hg
theorem WpS.cons {i : Nat} {o : Oper} {e : Eff} (hi : ops[i]? = some o) (hd : ∀ d, o.dst = some d → d < n) (h : LT P En n ops o σ.sl σ.bx e) (t : WpS P En n w0 h0 c ops l K (upd1 σ o e)) : WpS P En n w0 h0 c ops (i :: l) K σ := by
  intro Q a w hg hQ
  obtain ⟨h', β, hinv, hslots⟩ := hg
  rw [wpOps_cons]
  unfold wpOp
  rw [hi]
  refine h σ.sl σ.bx (fun _ _ => rfl) (fun _ _ => rfl) (fun _ _ => rfl) w0 h0 c h' β a w Q hinv hslots _ (fun a' w' hh => ?_)
  obtain ⟨v, h'', β', rfl, q1, q2, q3, q4, q5⟩ := hh
  exact t Q _ _ (gam_step hd hslots q1 q2 q3 q4 q5) hQ
theorem WpS.sub (hs : Sub σ τ) (h : WpS P En n w0 h0 c ops l K τ) : WpS P En n w0 h0 c ops l K σ := fun Q a w hg hQ => h Q a w (hs _ _ _ _ _ _ _ hg) hQ
theorem slot_any {h : GH} {β : Nat → Nat} {a : Act} (hs : Slots n h β σ.sl σ.bx a) {t : Nat} (ht : t < n) : ∃ v, a.tmps[t]? = some v := by
  have : t < a.tmps.size := by rw [hs.size]; exact ht
  exact ⟨_, Array.getElem?_eq_getElem this⟩
theorem slots_pin {h : GH} {β : Nat → Nat} {a : Act} {t b : Nat} (hs : Slots n h β σ.sl σ.bx a) (ht : t < n) (hb : look σ.bx b ≠ none) : Slots n h β ((t, .pin b (β b)) :: σ.sl) σ.bx a := by
  refine ⟨hs.defers, hs.size, fun t' sd h' => ?_⟩
  rw [look_cons] at h'
  split at h'
  · rename_i e
    subst e
    cases h'
    obtain ⟨v, hv⟩ := slot_any hs ht
    exact ⟨v, hv, rfl, hb⟩
  · exact hs.slot t' sd h'
theorem WpD.pin {co : Code} {K : Exit → St → Prop} {t b : Nat} (ht : Nat.blt t n = true) (hb : look σ.bx b ≠ none) (h : ∀ x, WpD P En n w0 h0 c co K ⟨(t, .pin b x) :: σ.sl, σ.bx⟩) : WpD P En n w0 h0 c co K σ := by
  rintro Q a w ⟨h', β, hi, hs⟩ hQ
  exact h (β b) Q a w ⟨h', β, hi, slots_pin hs (Nat.le_of_ble_eq_true ht) hb⟩ hQ
/-- A slice in a field: nil, or the head of a block. -/
def gvl (blk len cap : Nat) : Value := match len with
  | 0 => .slice none 0 0
  | len + 1 => .slice (some ⟨blk, 0, none⟩) (len + 1) cap
theorem Sub.toApp {t p q b k len cap blk x : Nat} (h1 : look σ.sl t = some (.one (ex (gvl blk len cap)))) (h2 : look σ.sl p = some (.pin b blk)) (h3 : look σ.sl q = some (.pin (b + 250) x)) (h4 : 0 < len → len ≤ cap ∧ cap ≤ maxLen ∧ x = cap * k) : Sub σ ⟨(t, .app b k len) :: σ.sl, σ.bx⟩ := by
  rintro En n w0 h0 c a w ⟨h, β, hi, hs⟩
  obtain ⟨v, r1, r2, _⟩ := hs.slot t _ h1
  obtain ⟨_, _, r3, l3⟩ := hs.slot p _ h2
  obtain ⟨_, _, r4, l4⟩ := hs.slot q _ h3
  have r2 : v = gvl blk len cap := r2
  have r3 : β b = blk := r3
  have r4 : β (b + 250) = x := r4
  refine ⟨h, β, hi, hs.defers, hs.size, fun t' sd ht => ?_⟩
  rw [look_cons] at ht
  split at ht
  · rename_i e
    subst e
    cases ht
    refine ⟨v, r1, ?_, l3, l4⟩
    cases len with
    | zero => exact .inl ⟨r2, rfl⟩
    | succ len =>
      obtain ⟨g1, g2, g3⟩ := h4 (by omega)
      exact .inr ⟨cap, by rw [r3]; exact r2, by omega, g1, g2, by rw [r4]; exact g3.symm⟩
  · exact hs.slot t' sd ht
theorem WpS.fromApp {t p q b k len : Nat} (hp : Nat.blt p n = true) (hq : Nat.blt q n = true) (h1 : look σ.sl t = some (.app b k len)) (hlen : 0 < len)
    (h : ∀ blk cap x, (len ≤ cap ∧ cap ≤ maxLen ∧ x = cap * k) → WpS P En n w0 h0 c ops l K ⟨(t, .one (ex (gvl blk len cap))) :: (p, .pin b blk) :: (q, .pin (b + 250) x) :: σ.sl, σ.bx⟩) : WpS P En n w0 h0 c ops l K σ := by
  rintro Q a w ⟨h', β, hi, hs⟩ hQ
  obtain ⟨v, r1, r2, l1, l2⟩ := hs.slot t _ h1
  rcases r2 with ⟨_, e0⟩ | ⟨cap, e1, e2, e3, e4, e5⟩
  · omega
  have s1 := slots_pin hs (Nat.le_of_ble_eq_true hq) l2
  have s2 := slots_pin (σ := ⟨(q, .pin (b + 250) (β (b + 250))) :: σ.sl, σ.bx⟩) (t := p) s1 (Nat.le_of_ble_eq_true hp) l1
  refine h (β b) cap (β (b + 250)) ⟨e3, e4, e5.symm⟩ Q a w ⟨h', β, hi, hs.defers, hs.size, fun t' sd ht => ?_⟩ hQ
  rw [look_cons] at ht
  split at ht
  · rename_i e
    subst e
    cases ht
    refine ⟨v, r1, ?_, trivial⟩
    show v = gvl (β b) len cap
    cases len with
    | zero => omega
    | succ len => exact e1
  · exact s2.slot t' sd ht
/-- The block of a slice in a field is known for good. -/
theorem Sub.pubCell {b d p k len cap blk : Nat} {p0 : Pd} {ps : List Pd} {sl : Sl} {bx0 : Bx} (hb0 : Nat.blt b 1000 = true) (hb : look σ.bx b = some ps) (hlen : ps.length = len * k) (hd : look bx0 d = some [p0, ex (gvl blk len cap)]) (hp : look σ.sl p = some (.pin b blk)) (hl0 : 0 < len) (hlc : len ≤ cap) (hcm : cap ≤ maxLen)
    (h2 : subBx σ.bx bx0) (h3 : look bx0 b = none) (h1 : subSl σ.sl ((d, [p0, slc k ps len]) :: bx0) sl) : Sub σ ⟨sl, (d, [p0, slc k ps len]) :: bx0⟩ := by
  rintro En n w0 h0 c a w ⟨h, β, hi, hs⟩
  have hb0 : b < 1000 := Nat.le_of_ble_eq_true hb0
  obtain ⟨h', vs, hi', hle, hall, hcell⟩ := hi.pub b hb0 hb h2 h3
  obtain ⟨_, _, r3, _⟩ := hs.slot p _ hp
  have r3 : β b = blk := r3
  have hslc : (slc k ps len).p h' (gvl blk len cap) := by
    cases len with
    | zero => omega
    | succ len => exact ⟨some ⟨blk, 0, none⟩, cap, rfl, hlc, hcm, (fun h => by cases h), hlen, fun _ => ⟨blk, 0, vs, rfl, hall, fun j u hu => by rw [Nat.zero_add, ← r3]; exact hcell j u hu⟩⟩
  refine ⟨h', β, ⟨hi'.env, hi'.holds, hi'.le0, hi'.fresh, hi'.below, hi'.dis, hi'.pin, fun i qs hq hqs => ?_, fun i j qs rs a1 a2 b1 b2 => ?_⟩, hs.defers, hs.size, fun t sd ht => ?_⟩
  · have hq2 : look ((d, [p0, slc k ps len]) :: bx0) i = some qs := hq
    by_cases e : d = i
    · subst e
      rw [look_cons, if_pos rfl] at hq2
      have hqe := Option.some.inj hq2
      rw [← hqe]
      obtain ⟨r1, r2, us, rest, T, r3', r4, r5⟩ := hi'.box _ _ hd (by simp)
      refine ⟨r1, r2, us, rest, T, r3', ?_, r5⟩
      match us, r4 with
      | [u0, u1], ⟨g1, g2, g3, g4, g5⟩ =>
        have g3 : u1 = gvl blk len cap := g3
        exact ⟨g1, g2, by rw [g3]; exact hslc, g4, trivial⟩
    · rw [look_cons, if_neg e] at hq2
      exact hi'.box i qs hq2 hqs
  · have hne : ∀ i qs, look ((d, [p0, slc k ps len]) :: bx0) i = some qs → qs ≠ [] → ∃ qs', look bx0 i = some qs' ∧ qs' ≠ [] := fun i qs hq hqs => by
      rw [look_cons] at hq
      split at hq
      · rename_i e
        subst e
        exact ⟨_, hd, by simp⟩
      · exact ⟨qs, hq, hqs⟩
    obtain ⟨q1, e1, f1⟩ := hne i qs a1 a2
    obtain ⟨q2, e2, f2⟩ := hne j rs b1 b2
    exact hi'.inj i j _ _ e1 f1 e2 f2
  · obtain ⟨⟨sd', g1, g2⟩, g3⟩ := subSl_get h1 ht
    obtain ⟨v, r1, r2, _⟩ := hs.slot t sd' g1
    exact ⟨v, r1, SD.ok_mono (g2.ok r2) g3 hle (fun _ _ => rfl), g3⟩
section
variable {sl : Sl} {bx : Bx}
/-- One operation, in the text's order. -/
theorem WpS.S {i d : Nat} {op : Op} {ty : TypeId} {pos : String} {after : Array Edge} {sd : SD} {rb : List Nat} {wb bx' : Bx} (hi : ops[i]? = some ⟨some d, op, ty, pos, after, none⟩) (hd : Nat.blt d n = true) (h : RT P En n ⟨some d, op, ty, pos, after, none⟩ sl bx ⟨sd, rb, wb⟩) (hb : wb ++ bx = bx') (t : WpS P En n w0 h0 c ops l K ⟨(d, sd) :: sl, bx'⟩) : WpS P En n w0 h0 c ops (i :: l) K ⟨sl, bx⟩ := by
  subst hb
  exact WpS.cons (σ := ⟨sl, bx⟩) hi (fun d' h' => by cases h'; exact Nat.le_of_ble_eq_true hd) (LT.plain rfl h) t
theorem WpS.N {i : Nat} {op : Op} {ty : TypeId} {pos : String} {after : Array Edge} {sd : SD} {rb : List Nat} {wb bx' : Bx} (hi : ops[i]? = some ⟨none, op, ty, pos, after, none⟩) (h : RT P En n ⟨none, op, ty, pos, after, none⟩ sl bx ⟨sd, rb, wb⟩) (hb : wb ++ bx = bx') (t : WpS P En n w0 h0 c ops l K ⟨sl, bx'⟩) : WpS P En n w0 h0 c ops (i :: l) K ⟨sl, bx⟩ := by
  subst hb
  exact WpS.cons (σ := ⟨sl, bx⟩) hi (fun d' h' => by cases h') (LT.plain rfl h) t
end
end
instance (blk len cap : Nat) : C1 (ex (gvl blk len cap)) := ⟨fun _ _ h => by rw [h]; cases len <;> rfl⟩
end Go.Proofs.YtpiflllcjgpkhaaGreatDoor

/- The reference's dual symbol. (With LT.skipU.) -/
namespace Go.Proofs.YtpiflllcjgpkhaaGreatDoor
open Go.RowKit Limb Num
instance cbody14 : CBody Tryz.prog 14 := ⟨⟨_, Tryz.func14, rfl, by rfl⟩⟩
set_option maxHeartbeats 2000000 in
theorem rdual (En : Ev) (p : Int) (f : Nat → Co) (n : Nat) (E : Int) (H : OddL f n) (hp : smP p = true) (h3 : 3 ≤ p) (hE1 : (f (n - 1)).e ≤ E) (hE2 : E ≤ 60) :
    Fn Tryz.prog En 14 [locP p f n, ex (.int .i64 E)] (tupP [locP p (dua f n E) n, ex (.int .i64 0)]) := by
  have hn1 := H.n1
  have hn8 := H.n8
  have he0 := H.e0 (n - 1) (by omega)
  have V1 := rvalid En p f n H hp h3
  have V2 := rvalid En p (dua f n E) n (oddL_dua H hE1 hE2) hp h3
  have wn : IntKind.i64.wrap ((n : Int) - 1) = (n : Int) - 1 - ((0 : Nat) : Int) := by rw [w64 (by omega) (by omega)]; omega
  generalize hg : dua f n E = g at *
  unfold locP at V1 V2 ⊢
  refine fn_of_body Tryz.func14 rfl Tryz.ntmps14 rfl ?_
  intro w0 h0
  repeat (first | refine js ?_ | refine jb ?_)
  refine jr ?_
  refine jT (ru_boxR rfl rfl rfl) ?_
  refine jT (ru_alloc rfl rfl rfl) ?_
  refine ja rfl ?_
  refine RG.nil (by kernel_rfl) ?_
  repeat (first | refine js ?_ | refine jb ?_)
  refine jr ?_
  refine jS (ru_loadR rfl rfl rfl rfl) ?_
  refine jS (ru_call V1 ⟨rfl, trivial⟩) ?_
  refine jS (rt_un rfl (fun w => run_not w _)) ?_
  refine RG.nil (by kernel_rfl) ?_
  repeat (first | refine js ?_ | refine jb ?_)
  refine WpD.condF rfl ?_
  repeat (first | refine js ?_ | refine jb ?_)
  refine WpD.skip ?_
  repeat (first | refine js ?_ | refine jb ?_)
  refine jr ?_
  refine jm rfl ?_
  refine jS (rt_bin_to rfl rfl (fun w => run_lti w _ _ _ _ _ _) (vbool (decide_eq_false (by first | assumption | omega)))) ?_
  refine jm rfl ?_
  refine RG.S0 (LT.run rfl rfl rfl (rt_move rfl)) ?_
  refine RG.S0 (LT.run rfl rfl rfl (rt_bin_to rfl rfl (fun w => run_gti w _ _ _ _ _ _) (vbool (decide_eq_false (by first | assumption | omega))))) ?_
  refine jS (rt_pick_false rfl rfl) ?_
  refine RG.nil (by kernel_rfl) ?_
  repeat (first | refine js ?_ | refine jb ?_)
  refine WpD.condF rfl ?_
  repeat (first | refine js ?_ | refine jb ?_)
  refine WpD.skip ?_
  repeat (first | refine js ?_ | refine jb ?_)
  refine jr ?_
  refine jS (ru_fieldAddr rfl rfl) ?_
  refine jS (ru_load1 rfl rfl rfl) ?_
  refine jS (ru_build (ps := [(_, _)]) ⟨rfl, Part.c rfl, trivial⟩ rfl) ?_
  refine jT (ru_alloc rfl rfl rfl) ?_
  refine jO (ru_storeR rfl rfl rfl rfl rfl rfl) ?_
  refine RG.nil (by kernel_rfl) ?_
  repeat (first | refine js ?_ | refine jb ?_)
  refine jr ?_
  refine jS (ru_fieldAddr rfl rfl) ?_
  refine jS (ru_load1 rfl rfl rfl) ?_
  refine jS (ru_len rfl CSlice.ok) ?_
  refine jS (rt_bin_to rfl rfl (fun w => run_subi w _ _ _ _ _ _) (vint wn)) ?_
  refine ja rfl ?_
  refine RG.nil (by kernel_rfl) ?_
  repeat (first | refine js ?_ | refine jb ?_)
  refine WpD.sub (τ := ⟨[(1, .one (ex (.int .i64 E))), (2, .ptr 2 0), (4, .ptr 4 0), (6, .ptr 6 0), (7, .one (ex (.int .i64 ((n : Int) - 1 - ((0 : Nat) : Int)))))], [(2, [ex (.int .i64 p), slc 5 (rows (ccs f) n) n]), (4, [ex (.int .i64 0), ex (.slice none 0 0)]), (6, [ex (.int .i64 p), ex (.slice none 0 0)]), (545, []), (795, [])]⟩) ?_ ?_
  · refine Sub.mk ?_ ?_
    · repeat (first | exact trivial | refine jv rfl ?_ | refine jw rfl (js0 rfl) ?_ | refine jw rfl ⟨js0 rfl, js0 rfl⟩ ?_ | refine jx rfl ⟨js0 rfl, js0 rfl⟩ ?_ | refine jw rfl (clo_live (js0 rfl) (js0 rfl)) ?_ | refine ⟨⟨_, rfl, PLe.refl _⟩, trivial, ?_⟩)
    · repeat (first | exact trivial | refine jz ?_ | refine jy rfl ?_)
  refine WpD.pin (t := 17) (b := 795) rfl (Option.some_ne_none _) fun xx0 => ?_
  refine WpD.pin (t := 16) (b := 545) rfl (Option.some_ne_none _) fun blk0 => ?_
  refine WpD.loop (α := {q : Nat × Nat × Nat × Nat // q.1 ≤ n ∧ (0 < q.1 → q.1 ≤ q.2.2.1 ∧ q.2.2.1 ≤ maxLen ∧ q.2.2.2 = q.2.2.1 * 5)}) (fun q => ⟨[(1, .one (ex (.int .i64 E))), (2, .ptr 2 0), (4, .ptr 4 0), (6, .ptr 6 0), (7, .one (ex (.int .i64 ((n : Int) - 1 - (q.1.1 : Int))))), (16, .pin 545 q.1.2.1), (17, .pin 795 q.1.2.2.2)], [(2, [ex (.int .i64 p), slc 5 (rows (ccs f) n) n]), (4, [ex (.int .i64 0), ex (.slice none 0 0)]), (6, [ex (.int .i64 p), ex (gvl q.1.2.1 q.1.1 q.1.2.2.1)]), (545, rows (ccs g) q.1.1), (795, [])]⟩) (fun q => n - q.1.1) ⟨(0, blk0, 0, xx0), Nat.zero_le _, fun h => absurd h (Nat.lt_irrefl 0)⟩ ?_ ?_
  · dsimp only
    refine Sub.mk ?_ ?_
    · repeat (first | exact trivial | refine jv rfl ?_ | refine jw rfl (js0 rfl) ?_ | refine jw rfl ⟨js0 rfl, js0 rfl⟩ ?_ | refine jx rfl ⟨js0 rfl, js0 rfl⟩ ?_ | refine jw rfl (clo_live (js0 rfl) (js0 rfl)) ?_ | refine ⟨⟨_, rfl, PLe.refl _⟩, trivial, ?_⟩)
    · repeat (first | exact trivial | refine jz ?_ | refine jy rfl ?_)
  rintro ⟨⟨k, blk, cap, xx⟩, hk, hcap⟩
  dsimp only at hk hcap ⊢
  have hlen : (rows (ccs g) k).length = k * 5 := rows_len (ccs_len g) k
  by_cases hlt : k < n
  · have e7 : (n : Int) - 1 - (k : Int) = ((n - 1 - k : Nat) : Int) := by omega
    rw [e7]
    have hl2 : n - 1 - k < n := by omega
    have hq : ((rows (ccs f) n).drop ((n - 1 - k) * 5)).take 5 = coc (f (n - 1 - k)) := rows_get (ccs_len f) hl2
    have b1 := H.e0 _ hl2
    have b2 := H.e1 _ hl2
    have we : IntKind.i64.wrap (E - (f (n - 1 - k)).e) = E - (f (n - 1 - k)).e := w64 (by omega) (by omega)
    have w8 : IntKind.i64.wrap (((n - 1 - k : Nat) : Int) - 1) = (n : Int) - 1 - ((k + 1 : Nat) : Int) := by rw [w64 (by omega) (by omega)]; omega
    have hr : rows (ccs g) k ++ coc (g k) = rows (ccs g) (k + 1) := (rows_succ (ccs g) k).symm
    rw [← hg] at hr
    rw [show coc (dua f n E k) = [ex (.int .i64 (E - (f (n - 1 - k)).e)), ex (.int .i64 (f (n - 1 - k)).d), ex (.int .i64 (f (n - 1 - k)).s), ex (.bool (f (n - 1 - k)).o), ex (.int .i64 (f (n - 1 - k)).y)] from rfl, hg] at hr
    repeat (first | refine js ?_ | refine jb ?_)
    refine jr ?_
    refine jm rfl ?_
    refine jS (rt_bin_to rfl rfl (fun w => run_gei w _ _ _ _ _ _) (vbool (decide_eq_true (by first | assumption | omega)))) ?_
    refine RG.nil (by kernel_rfl) ?_
    repeat (first | refine js ?_ | refine jb ?_)
    refine WpD.condT rfl ?_
    repeat (first | refine js ?_ | refine jb ?_)
    refine WpD.skip ?_
    repeat (first | refine js ?_ | refine jb ?_)
    refine jr ?_
    refine jS (ru_fieldAddr rfl rfl) ?_
    refine jS (ru_load1 rfl rfl rfl) ?_
    refine jm rfl ?_
    refine jS (rc_indexS rfl rfl hl2 hq) ?_
    refine jS (rc_loadR rfl rfl rfl) ?_
    refine jT (ru_alloc rfl rfl rfl) ?_
    refine jO (ru_storeR rfl rfl rfl rfl rfl rfl) ?_
    refine RG.nil (by kernel_rfl) ?_
    repeat (first | refine js ?_ | refine jb ?_)
    refine jr ?_
    refine jm rfl ?_
    refine jS (ru_fieldAddr rfl rfl) ?_
    refine jS (ru_load1 rfl rfl rfl) ?_
    refine jS (rt_bin_to rfl rfl (fun w => run_subi w _ _ _ _ _ _) (vint we)) ?_
    refine jS (ru_fieldAddr rfl rfl) ?_
    refine jO (ru_store1 rfl rfl rfl rfl rfl) ?_
    refine RG.nil (by kernel_rfl) ?_
    repeat (first | refine js ?_ | refine jb ?_)
    repeat (first | refine js ?_ | refine jb ?_)
    refine WpD.seqR ?_
    refine WpS.S rfl rfl (ru_fieldAddr rfl rfl) rfl ?_
    refine WpS.S rfl rfl (ru_load1 rfl rfl rfl) rfl ?_
    refine WpS.S rfl rfl (ru_loadR rfl rfl rfl rfl) rfl ?_
    refine WpS.S rfl rfl (rc_buildR (ps := [(_, _)]) ⟨rfl, Part.c rfl, trivial⟩ rfl rfl rfl) rfl ?_
    refine WpS.sub (Sub.toApp (t := 42) (p := 16) (q := 17) (b := 545) (k := 5) (blk := blk) (len := k) (cap := cap) (x := xx) rfl rfl rfl hcap) ?_
    refine WpS.S rfl rfl (ru_appendA 546 rfl rfl hlen rfl (by omega) (by omega) rfl rfl rfl rfl rfl hr) rfl ?_
    refine WpS.sub (τ := ⟨[(1, .one (ex (.int .i64 E))), (2, .ptr 2 0), (4, .ptr 4 0), (6, .ptr 6 0), (7, .one (ex (.int .i64 ((n - 1 - k : Nat) : Int)))), (45, .app 545 5 (k + 1))], [(2, [ex (.int .i64 p), slc 5 (rows (ccs f) n) n]), (4, [ex (.int .i64 0), ex (.slice none 0 0)]), (6, [ex (.int .i64 p), ex (gvl blk k cap)]), (545, rows (ccs g) (k + 1)), (795, [])]⟩) (Sub.ren 545 546 rfl ?_ ?_ rfl) ?_
    · repeat (first | exact trivial | refine ⟨.inl ⟨⟨_, rfl, PLe.refl _⟩, trivial, trivial⟩, ?_⟩ | refine ⟨.inr ⟨_, _, rfl, .inl rfl, ⟨Option.some_ne_none _, Option.some_ne_none _⟩⟩, ?_⟩ | refine ⟨.inl ⟨⟨_, rfl, rfl⟩, Option.some_ne_none _, ⟨(by decide), (by decide)⟩⟩, ?_⟩)
    · repeat (first | exact trivial | refine ⟨.inr ⟨(by decide), .inr rfl⟩, ?_⟩ | refine ⟨.inl ⟨rfl, _, rfl, PsLe.refl _⟩, ?_⟩ | refine ⟨.inr ⟨(by decide), .inl ⟨(by decide), _, rfl, PsLe.refl _⟩⟩, ?_⟩)
    refine WpS.fromApp (t := 45) (p := 16) (q := 17) rfl rfl rfl (by omega) fun blk' cap' xx' hc' => ?_
    refine WpS.S rfl rfl (ru_fieldAddr rfl rfl) rfl ?_
    refine WpS.N rfl (ru_store1 rfl rfl rfl rfl rfl) rfl ?_
    refine WpS.nil ?_
    repeat (first | refine js ?_ | refine jb ?_)
    refine jr ?_
    refine jm rfl ?_
    refine jS (rt_bin_to rfl rfl (fun w => run_subi w _ _ _ _ _ _) (vint w8)) ?_
    refine ja rfl ?_
    refine RG.nil (by kernel_rfl) ?_
    refine ⟨⟨(k + 1, blk', cap', xx'), by dsimp only; omega, fun _ => hc'⟩, ?_, by dsimp only; omega⟩
    dsimp only
    refine Sub.mk ?_ ?_
    · repeat (first | exact trivial | refine jv rfl ?_ | refine jw rfl (js0 rfl) ?_ | refine jw rfl ⟨js0 rfl, js0 rfl⟩ ?_ | refine jx rfl ⟨js0 rfl, js0 rfl⟩ ?_ | refine jw rfl (clo_live (js0 rfl) (js0 rfl)) ?_ | refine ⟨⟨_, rfl, PLe.refl _⟩, trivial, ?_⟩)
    · repeat (first | exact trivial | refine jz ?_ | refine jy rfl ?_)
  · have : k = n := by omega
    subst this
    obtain ⟨c1, c2, _⟩ := hcap (by omega)
    repeat (first | refine js ?_ | refine jb ?_)
    refine jr ?_
    refine jm rfl ?_
    refine jS (rt_bin_to rfl rfl (fun w => run_gei w _ _ _ _ _ _) (vbool (decide_eq_false (by first | assumption | omega)))) ?_
    refine RG.nil (by kernel_rfl) ?_
    repeat (first | refine js ?_ | refine jb ?_)
    refine WpD.condF rfl ?_
    repeat (first | refine js ?_ | refine jb ?_)
    refine WpD.exit ?_
    repeat (first | refine js ?_ | refine jb ?_)
    refine WpD.sub (Sub.pubCell (b := 545) (d := 6) (p := 16) (k := 5) (len := k) (cap := cap) (blk := blk) (p0 := ex (.int .i64 p)) (sl := [(4, .ptr 4 0), (6, .ptr 6 0)]) (bx0 := [(4, [ex (.int .i64 0), ex (.slice none 0 0)]), (6, [ex (.int .i64 p), ex (gvl blk k cap)])]) rfl rfl hlen rfl rfl (by omega) c1 c2 ?_ rfl ?_) ?_
    · exact ⟨.inl ⟨_, rfl, PsLe.refl _⟩, .inl ⟨_, rfl, PsLe.refl _⟩, trivial⟩
    · exact ⟨⟨_, rfl, rfl⟩, Option.some_ne_none _, ⟨_, rfl, rfl⟩, Option.some_ne_none _, trivial⟩
    repeat (first | refine js ?_ | refine jb ?_)
    refine jr ?_
    refine jS (ru_loadR rfl rfl rfl rfl) ?_
    refine jS (ru_call V2 ⟨rfl, trivial⟩) ?_
    refine jS (rt_un rfl (fun w => run_not w _)) ?_
    refine RG.nil (by kernel_rfl) ?_
    repeat (first | refine js ?_ | refine jb ?_)
    refine WpD.condF rfl ?_
    repeat (first | refine js ?_ | refine jb ?_)
    refine WpD.skip ?_
    repeat (first | refine js ?_ | refine jb ?_)
    refine jr ?_
    refine jS (ru_loadR rfl rfl rfl rfl) ?_
    refine jO (ru_storeR rfl rfl rfl rfl rfl rfl) ?_
    refine ja rfl ?_
    refine RG.nil (by kernel_rfl) ?_
    repeat (first | refine js ?_ | refine jb ?_)
    refine WpD.ret ?_
    exact ret2 rfl (.cell rfl rfl CRow.ok rfl) (.tmp rfl) (PLe.refl _)
end Go.Proofs.YtpiflllcjgpkhaaGreatDoor

/- Statement of chapter 32: Duals. -/
namespace Go.Proofs.YtpiflllcjgpkhaaGreatDoor
open Go.RowKit Limb Num
instance cbody16 : CBody Tryz.prog 16 := ⟨⟨_, Tryz.func16, rfl, by rfl⟩⟩
def zero5 : Pd := aggP [ex (.bool false), ex (.slice none 0 0), ex (.bool false), ex (.slice none 0 0), ex (.bool false)]
section
variable (En : Ev)
theorem mMassX (p : Int) (f : Nat → Co) (n : Nat) (hX : Fn Tryz.prog En 31 [locP p f n] (tupP [zero5, ex (.int .i64 7)])) : Fn Tryz.prog En 15 [locP p f n] (tupP [zero5, ex (.int .i64 7)]) := by
  unfold locP zero5 at *
  refine fn_of_body Tryz.func15 rfl Tryz.ntmps15 rfl ?_
  intro w0 h0
  repeat (first | refine js ?_ | refine jb ?_)
  refine jr ?_
  refine jT (ru_boxR rfl rfl rfl) ?_
  refine jT (ru_alloc rfl rfl rfl) ?_
  refine ja rfl ?_
  refine RG.nil (by kernel_rfl) ?_
  repeat (first | refine js ?_ | refine jb ?_)
  refine jr ?_
  refine jS (ru_loadR rfl rfl rfl rfl) ?_
  refine jS (ru_call hX ⟨rfl, trivial⟩) ?_
  refine jm rfl ?_
  refine jS (rt_extract rfl rfl) ?_
  refine jS (rt_extract rfl rfl) ?_
  refine jT (ru_alloc rfl rfl rfl) ?_
  refine jO (ru_storeR rfl rfl rfl rfl rfl rfl) ?_
  refine ja rfl ?_
  refine RG.nil (by kernel_rfl) ?_
  repeat (first | refine js ?_ | refine jb ?_)
  refine jr ?_
  refine jm rfl ?_
  refine jS (rt_bin_to rfl rfl (fun w => run_nei w _ _ _ _ _ _) (vbool (bneT (by first | assumption | omega)))) ?_
  refine RG.nil (by kernel_rfl) ?_
  repeat (first | refine js ?_ | refine jb ?_)
  refine WpD.condT rfl ?_
  repeat (first | refine js ?_ | refine jb ?_)
  refine jr ?_
  refine jS (ru_build (ps := []) trivial rfl) ?_
  refine jm rfl ?_
  refine jO (ru_storeR rfl rfl rfl rfl rfl rfl) ?_
  refine ja rfl ?_
  refine RG.nil (by kernel_rfl) ?_
  repeat (first | refine js ?_ | refine jb ?_)
  refine WpD.ret ?_
  exact ret2 rfl (.cell rfl rfl CRow.ok rfl) (.tmp rfl) (PLe.refl _)
theorem beqB (b : Bool) : (b == b) = true := by cases b <;> rfl
theorem shalf (M : Rat) (b : Bool) (hM : Sz 134217728 M) : Fn Tryz.prog En 16 [halfP M b, halfP M b] (ex (.bool true)) := by
  have C1 := qsame En M M hM hM
  rw [decide_eq_true rfl] at C1
  unfold halfP
  refine fn_of_body Tryz.func16 rfl Tryz.ntmps16 rfl ?_
  intro w0 h0
  repeat (first | refine js ?_ | refine jb ?_)
  refine jr ?_
  refine jT (ru_boxR rfl rfl rfl) ?_
  refine jT (ru_boxR rfl rfl rfl) ?_
  refine ja rfl ?_
  refine RG.nil (by kernel_rfl) ?_
  repeat (first | refine js ?_ | refine jb ?_)
  refine jr ?_
  refine jS (ru_fieldAddr rfl rfl) ?_
  refine jS (ru_loadR rfl rfl rfl rfl) ?_
  refine jS (ru_fieldAddr rfl rfl) ?_
  refine jS (ru_loadR rfl rfl rfl rfl) ?_
  refine jS (ru_call C1 ⟨rfl, rfl, trivial⟩) ?_
  refine jm rfl ?_
  first | refine RG.S0 (LT.run rfl rfl rfl (ru_fieldAddr rfl rfl)) ?_ | refine RG.S0 (LT.skip rfl rfl rfl) ?_
  first | refine RG.S0 (LT.run rfl rfl rfl (ru_load1 rfl rfl rfl)) ?_ | refine RG.S0 (LT.skip rfl rfl rfl) ?_
  first | refine RG.S0 (LT.run rfl rfl rfl (ru_fieldAddr rfl rfl)) ?_ | refine RG.S0 (LT.skip rfl rfl rfl) ?_
  first | refine RG.S0 (LT.run rfl rfl rfl (ru_load1 rfl rfl rfl)) ?_ | refine RG.S0 (LT.skip rfl rfl rfl) ?_
  first | refine RG.S0 (LT.run rfl rfl rfl (rt_bin_to rfl rfl (fun w => run_eqb w CBool.ok _ _ _ _) (vbool (beqB _)))) ?_ | refine RG.S0 (LT.skip rfl rfl rfl) ?_
  first | refine jS (rt_pick_true rfl rfl) ?_ | refine jS (rt_pick_false rfl rfl) ?_
  refine ja rfl ?_
  refine RG.nil (by kernel_rfl) ?_
  repeat (first | refine js ?_ | refine jb ?_)
  refine WpD.ret ?_
  exact ret1 rfl (.tmp rfl) (PLe.refl _)
theorem shalf0 : Fn Tryz.prog En 16 [zero5, zero5] (ex (.bool true)) := by
  have C1 := qsame0 En
  unfold zero5
  unfold zero4 at C1
  refine fn_of_body Tryz.func16 rfl Tryz.ntmps16 rfl ?_
  intro w0 h0
  repeat (first | refine js ?_ | refine jb ?_)
  refine jr ?_
  refine jT (ru_boxR rfl rfl rfl) ?_
  refine jT (ru_boxR rfl rfl rfl) ?_
  refine ja rfl ?_
  refine RG.nil (by kernel_rfl) ?_
  repeat (first | refine js ?_ | refine jb ?_)
  refine jr ?_
  refine jS (ru_fieldAddr rfl rfl) ?_
  refine jS (ru_loadR rfl rfl rfl rfl) ?_
  refine jS (ru_fieldAddr rfl rfl) ?_
  refine jS (ru_loadR rfl rfl rfl rfl) ?_
  refine jS (ru_call C1 ⟨rfl, rfl, trivial⟩) ?_
  refine jm rfl ?_
  first | refine RG.S0 (LT.run rfl rfl rfl (ru_fieldAddr rfl rfl)) ?_ | refine RG.S0 (LT.skip rfl rfl rfl) ?_
  first | refine RG.S0 (LT.run rfl rfl rfl (ru_load1 rfl rfl rfl)) ?_ | refine RG.S0 (LT.skip rfl rfl rfl) ?_
  first | refine RG.S0 (LT.run rfl rfl rfl (ru_fieldAddr rfl rfl)) ?_ | refine RG.S0 (LT.skip rfl rfl rfl) ?_
  first | refine RG.S0 (LT.run rfl rfl rfl (ru_load1 rfl rfl rfl)) ?_ | refine RG.S0 (LT.skip rfl rfl rfl) ?_
  first | refine RG.S0 (LT.run rfl rfl rfl (rt_bin_to rfl rfl (fun w => run_eqb w CBool.ok _ _ _ _) (vbool (beqB _)))) ?_ | refine RG.S0 (LT.skip rfl rfl rfl) ?_
  first | refine jS (rt_pick_true rfl rfl) ?_ | refine jS (rt_pick_false rfl rfl) ?_
  refine ja rfl ?_
  refine RG.nil (by kernel_rfl) ?_
  repeat (first | refine js ?_ | refine jb ?_)
  refine WpD.ret ?_
  exact ret1 rfl (.tmp rfl) (PLe.refl _)
end
theorem spC_cases (f : Nat → Co) (e : Int) : ∀ n, spC f e n = ⟨e, 0, 1, false, 0⟩ ∨ ∃ i, i < n ∧ spC f e n = f i
  | 0 => .inl rfl
  | n + 1 => by
    rw [spC]
    by_cases h : (f n).e = e
    · rw [if_pos h]
      exact .inr ⟨n, by omega, rfl⟩
    · rw [if_neg h]
      rcases spC_cases f e n with h1 | ⟨i, h1, h2⟩
      · exact .inl h1
      · exact .inr ⟨i, by omega, h2⟩
theorem spC_bd {f : Nat → Co} {n : Nat} (H : OddL f n) (e : Int) : 0 ≤ (spC f e n).d ∧ (spC f e n).d ≤ 8 ∧ ((spC f e n).s = 1 ∨ (spC f e n).s = -1) := by
  rcases spC_cases f e n with h | ⟨i, h1, h2⟩
  · rw [h]
    exact ⟨by show (0 : Int) ≤ 0; omega, by show (0 : Int) ≤ 8; omega, .inl rfl⟩
  · rw [h2]
    have := H.d0 i h1
    exact ⟨by omega, H.d8 i h1, H.sg i h1⟩
theorem ssO_bd {p : Int} {f : Nat → Co} {n : Nat} (H : OddL f n) (e : Int) : -1 ≤ ssO p f n e ∧ ssO p f n e ≤ 1 := by
  have := spC_bd H e
  unfold ssO spO
  split
  · omega
  · split <;> omega
theorem sdO_bd {f : Nat → Co} {n : Nat} (H : OddL f n) (e : Int) : sdO f n e ≤ 9 := by
  have := spC_bd H e
  unfold sdO
  omega
/-- The mass of a symbol at an odd prime. -/
def mO (p : Int) (f : Nat → Co) (n : Nat) : Rat := mpr p (sdO f n) (ssO p f n) (((2 : Int) : Rat) ^ 0 * ((p : Int) : Rat) ^ ((crH f n).toNat / 2)) ((f (n - 1)).e.toNat + 3)
def masA (h : Int) (M : Rat) : Pd := if h ≤ 128 then tupP [halfP M (halfB h), ex (.int .i64 0)] else tupP [zero5, ex (.int .i64 7)]
theorem massO (p : Int) (f : Nat → Co) (n : Nat) (H : OddL f n) (hp : smP p = true) (h3 : 3 ≤ p) : Fn Tryz.prog TabD 15 [locP p f n] (masA (crH f n) (mO p f n)) := by
  obtain ⟨p1, p2, _⟩ := smP_bd hp
  have A := oaccept p f n H hp h3
  have X := mCross TabD p f n H.toOkL p1 p2 A
  unfold crA at X
  unfold masA
  by_cases h : crH f n ≤ 128
  · rw [if_pos h] at X
    rw [if_pos h]
    have hb := crH_bd H.toOkL (j := n) (Nat.le_refl _)
    refine mMass TabD p f n H.toOkL p1 p2 _ _ ((szq_pow (sz_z (z := p) (by omega) (by omega)) _).mono (by omega)) X (mTypesO TabD p f n (by omega) A) (sdO f n) (ssO p f n) (sdO_bd H) (ssO_bd H) fun e e1 e2 => ?_
    obtain ⟨c1, c2, c3⟩ := spC_bd H e
    have S := mspeciesO TabD p f n e h3 p2 (by have := H.n8; omega) e1 e2 c1 (by omega) (by omega)
    rw [show (spC f e n).d = ((sdO f n e : Nat) : Int) by unfold sdO; omega, show spO p ((sdO f n e : Nat) : Int) (spC f e n).s = ssO p f n e by unfold ssO; rw [show ((sdO f n e : Nat) : Int) = (spC f e n).d by unfold sdO; omega]] at S
    exact S
  · rw [if_neg h] at X
    rw [if_neg h]
    exact mMassX TabD p f n X
theorem mO_dua {p : Int} {f : Nat → Co} {n : Nat} (H : OddL f n) {E : Int} (h1 : (f (n - 1)).e ≤ E) (h2 : E ≤ 60) : mO p (dua f n E) n = mO p f n := by
  unfold mO
  rw [crH_dua]
  exact mass_dua H h1 h2 _
theorem mO_sz {p : Int} {f : Nat → Co} {n : Nat} (H : OddL f n) (h1 : 2 ≤ p) (h2 : p ≤ 9973) (h : crH f n ≤ 128) : Sz 134217728 (mO p f n) := by
  have hn := H.n1
  have hb := crH_bd H.toOkL (j := n) (Nat.le_refl _)
  have he := H.e1 (n - 1) (by omega)
  unfold mO
  refine (mpr_sz h1 h2 (sdO_bd H) (ssO_bd H) ((szq_mul (szq_pow (sz_z (z := 2) (by omega) (by omega)) 0) (szq_pow (sz_z (z := p) (by omega) (by omega)) ((crH f n).toNat / 2))).mono (by omega)) _).mono (by omega)
set_option maxHeartbeats 1000000 in
theorem lduals (pk : Int) (x : Nat → By) (m : Nat) (k : Int) (q1 : 0 ≤ pk) (q2 : pk ≤ 255) (k1 : 0 ≤ k) (k2 : k ≤ 255) : Fn Tryz.prog TabD 5 [aggP [ex (.int .u8 pk), slc 5 (rows (bys x) m) m], ex (.int .u8 k)] (ex (.bool true)) := by
  have A := awake32
  by_cases hm : m ≤ 20
  · have C1 := slocal TabD pk x m hm q1 q2
    have H := scOdd x m
    have hl := sc_last x m
    have hp := od8_sm ⟨(pk % 8).toNat, by omega⟩
    have h3 := od8_ok ⟨(pk % 8).toNat, by omega⟩
    dsimp only at hp h3
    have h3 : (3 : Int) ≤ (od8 (pk % 8).toNat : Int) := by omega
    generalize (od8 (pk % 8).toNat : Int) = p at *
    generalize scF x m = f at *
    generalize scN x m = n at *
    obtain ⟨p1, p2, _⟩ := smP_bd hp
    have hn1 := H.n1
    have hn8 := H.n8
    have hlt : n - 1 < n := by omega
    have he0 := H.e0 _ hlt
    have hq : ((rows (ccs f) n).drop ((n - 1) * 5)).take 5 = coc (f (n - 1)) := rows_get (ccs_len f) hlt
    have w1 : IntKind.i64.wrap ((n : Int) - 1) = ((n - 1 : Nat) : Int) := by rw [w64 (by omega) (by omega)]; omega
    have w2 : IntKind.i64.wrap k = k := w64 (by omega) (by omega)
    have w3 : k.tmod 20 = k % 20 := Int.tmod_eq_emod_of_nonneg k1
    have w4 : IntKind.i64.wrap ((f (n - 1)).e + k % 20) = (f (n - 1)).e + k % 20 := w64 (by omega) (by omega)
    have g1 : (f (n - 1)).e ≤ (f (n - 1)).e + k % 20 := by omega
    have g2 : (f (n - 1)).e + k % 20 ≤ 60 := by omega
    have C2 := rdual TabD p f n ((f (n - 1)).e + k % 20) H hp h3 g1 g2
    have C3 := massO p f n H hp h3
    have C4 := massO p (dua f n ((f (n - 1)).e + k % 20)) n (oddL_dua H g1 g2) hp h3
    rw [crH_dua, mO_dua H g1 g2] at C4
    unfold masA at C3 C4
    by_cases hc : crH f n ≤ 128
    · rw [if_pos hc] at C3 C4
      have C5 := shalf TabD (mO p f n) (halfB (crH f n)) (mO_sz H p1 p2 hc)
      unfold locP halfP at *
      refine fn_of_body Tryz.func5 rfl Tryz.ntmps5 rfl ?_
      intro w0 h0
      repeat (first | refine js ?_ | refine jb ?_)
      refine jr ?_
      refine jT (ru_boxR rfl rfl rfl) ?_
      refine ja rfl ?_
      refine RG.nil (by kernel_rfl) ?_
      repeat (first | refine js ?_ | refine jb ?_)
      refine jr ?_
      refine jS (ru_fieldAddr rfl rfl) ?_
      refine jS (ru_load1 rfl rfl rfl) ?_
      refine jS (ru_len rfl CSlice.ok) ?_
      refine jS (rt_bin_to rfl rfl (fun w => run_gti w _ _ _ _ _ _) (vbool (decide_eq_false (by omega)))) ?_
      refine RG.nil (by kernel_rfl) ?_
      repeat (first | refine js ?_ | refine jb ?_)
      refine WpD.condF rfl ?_
      repeat (first | refine js ?_ | refine jb ?_)
      refine WpD.skip ?_
      repeat (first | refine js ?_ | refine jb ?_)
      refine jr ?_
      refine jS (ru_loadR rfl rfl rfl rfl) ?_
      refine jS (ru_call C1 ⟨rfl, rfl, trivial⟩) ?_
      refine jT (ru_alloc rfl rfl rfl) ?_
      refine jO (ru_storeR rfl rfl rfl rfl rfl rfl) ?_
      refine RG.nil (by kernel_rfl) ?_
      repeat (first | refine js ?_ | refine jb ?_)
      refine jr ?_
      refine jS (ru_loadR rfl rfl rfl rfl) ?_
      refine jS (ru_fieldAddr rfl rfl) ?_
      refine jS (ru_load1 rfl rfl rfl) ?_
      refine jS (ru_fieldAddr rfl rfl) ?_
      refine jS (ru_load1 rfl rfl rfl) ?_
      refine jS (ru_len rfl CSlice.ok) ?_
      refine jS (rt_bin_to rfl rfl (fun w => run_subi w _ _ _ _ _ _) (vint w1)) ?_
      refine jS (rc_indexS rfl rfl hlt hq) ?_
      refine jS (rc_fieldAddr rfl rfl) ?_
      refine jS (rc_load1 rfl rfl) ?_
      refine jm rfl ?_
      refine jS (rt_conv_to rfl (fun w => run_convi w CInt.ok CInt.ok _ _) (vint w2)) ?_
      refine jS (rt_bin_to rfl rfl (fun w => run_remi w _ _ _ _ _ _ (by first | decide | omega | assumption)) (vint w3)) ?_
      refine jS (rt_bin_to rfl rfl (fun w => run_addi w _ _ _ _ _ _) (vint w4)) ?_
      refine jS (ru_call C2 ⟨rfl, rfl, trivial⟩) ?_
      refine jm rfl ?_
      refine jS (rt_extract rfl rfl) ?_
      refine jS (rt_extract rfl rfl) ?_
      refine jT (ru_alloc rfl rfl rfl) ?_
      refine jO (ru_storeR rfl rfl rfl rfl rfl rfl) ?_
      refine ja rfl ?_
      refine RG.nil (by kernel_rfl) ?_
      repeat (first | refine js ?_ | refine jb ?_)
      refine jr ?_
      refine jS (ru_loadR rfl rfl rfl rfl) ?_
      refine jS (ru_call C3 ⟨rfl, trivial⟩) ?_
      refine jm rfl ?_
      refine jS (rt_extract rfl rfl) ?_
      refine jS (rt_extract rfl rfl) ?_
      refine jT (ru_alloc rfl rfl rfl) ?_
      refine jO (ru_storeR rfl rfl rfl rfl rfl rfl) ?_
      refine ja rfl ?_
      refine RG.nil (by kernel_rfl) ?_
      repeat (first | refine js ?_ | refine jb ?_)
      refine jr ?_
      refine jS (ru_loadR rfl rfl rfl rfl) ?_
      refine jS (ru_call C4 ⟨rfl, trivial⟩) ?_
      refine jm rfl ?_
      refine jS (rt_extract rfl rfl) ?_
      refine jS (rt_extract rfl rfl) ?_
      refine jT (ru_alloc rfl rfl rfl) ?_
      refine jO (ru_storeR rfl rfl rfl rfl rfl rfl) ?_
      refine ja rfl ?_
      refine RG.nil (by kernel_rfl) ?_
      repeat (first | refine js ?_ | refine jb ?_)
      refine jr ?_
      refine jm rfl ?_
      refine jS (rt_bin rfl rfl (fun w => run_eqi w _ _ _ _ _ _)) ?_
      refine jm rfl ?_
      first | refine RG.S0 (LT.run rfl rfl rfl (rt_move rfl)) ?_ | refine RG.S0 (LT.skip rfl rfl rfl) ?_
      first | refine RG.S0 (LT.run rfl rfl rfl (rt_move rfl)) ?_ | refine RG.S0 (LT.skip rfl rfl rfl) ?_
      first | refine RG.S0 (LT.run rfl rfl rfl (rt_bin rfl rfl (fun w => run_eqi w _ _ _ _ _ _))) ?_ | refine RG.S0 (LT.skip rfl rfl rfl) ?_
      first | refine jS (rt_pick_true rfl rfl) ?_ | refine jS (rt_pick_false rfl rfl) ?_
      refine jm rfl ?_
      first | refine RG.S0 (LT.run rfl rfl rfl (ru_loadR rfl rfl rfl rfl)) ?_ | refine RG.S0 (LT.skip rfl rfl rfl) ?_
      first | refine RG.S0 (LT.run rfl rfl rfl (ru_loadR rfl rfl rfl rfl)) ?_ | refine RG.S0 (LT.skip rfl rfl rfl) ?_
      first | refine RG.S0 (LT.run rfl rfl rfl (ru_call C5 ⟨rfl, rfl, trivial⟩)) ?_ | refine RG.S0 (LT.skip rfl rfl rfl) ?_
      first | refine jS (rt_pick_true rfl rfl) ?_ | refine jS (rt_pick_false rfl rfl) ?_
      refine jm rfl ?_
      first | refine RG.S0 (LT.run rfl rfl rfl (ru_call A trivial)) ?_ | refine RG.S0 (LT.skip rfl rfl rfl) ?_
      first | refine jS (rt_pick_true rfl rfl) ?_ | refine jS (rt_pick_false rfl rfl) ?_
      refine ja rfl ?_
      refine RG.nil (by kernel_rfl) ?_
      repeat (first | refine js ?_ | refine jb ?_)
      refine WpD.ret ?_
      exact ret1 rfl (.tmp rfl) (PLe.refl _)
    · rw [if_neg hc] at C3 C4
      have C5 := shalf0 TabD
      unfold locP zero5 at *
      refine fn_of_body Tryz.func5 rfl Tryz.ntmps5 rfl ?_
      intro w0 h0
      repeat (first | refine js ?_ | refine jb ?_)
      refine jr ?_
      refine jT (ru_boxR rfl rfl rfl) ?_
      refine ja rfl ?_
      refine RG.nil (by kernel_rfl) ?_
      repeat (first | refine js ?_ | refine jb ?_)
      refine jr ?_
      refine jS (ru_fieldAddr rfl rfl) ?_
      refine jS (ru_load1 rfl rfl rfl) ?_
      refine jS (ru_len rfl CSlice.ok) ?_
      refine jS (rt_bin_to rfl rfl (fun w => run_gti w _ _ _ _ _ _) (vbool (decide_eq_false (by omega)))) ?_
      refine RG.nil (by kernel_rfl) ?_
      repeat (first | refine js ?_ | refine jb ?_)
      refine WpD.condF rfl ?_
      repeat (first | refine js ?_ | refine jb ?_)
      refine WpD.skip ?_
      repeat (first | refine js ?_ | refine jb ?_)
      refine jr ?_
      refine jS (ru_loadR rfl rfl rfl rfl) ?_
      refine jS (ru_call C1 ⟨rfl, rfl, trivial⟩) ?_
      refine jT (ru_alloc rfl rfl rfl) ?_
      refine jO (ru_storeR rfl rfl rfl rfl rfl rfl) ?_
      refine RG.nil (by kernel_rfl) ?_
      repeat (first | refine js ?_ | refine jb ?_)
      refine jr ?_
      refine jS (ru_loadR rfl rfl rfl rfl) ?_
      refine jS (ru_fieldAddr rfl rfl) ?_
      refine jS (ru_load1 rfl rfl rfl) ?_
      refine jS (ru_fieldAddr rfl rfl) ?_
      refine jS (ru_load1 rfl rfl rfl) ?_
      refine jS (ru_len rfl CSlice.ok) ?_
      refine jS (rt_bin_to rfl rfl (fun w => run_subi w _ _ _ _ _ _) (vint w1)) ?_
      refine jS (rc_indexS rfl rfl hlt hq) ?_
      refine jS (rc_fieldAddr rfl rfl) ?_
      refine jS (rc_load1 rfl rfl) ?_
      refine jm rfl ?_
      refine jS (rt_conv_to rfl (fun w => run_convi w CInt.ok CInt.ok _ _) (vint w2)) ?_
      refine jS (rt_bin_to rfl rfl (fun w => run_remi w _ _ _ _ _ _ (by first | decide | omega | assumption)) (vint w3)) ?_
      refine jS (rt_bin_to rfl rfl (fun w => run_addi w _ _ _ _ _ _) (vint w4)) ?_
      refine jS (ru_call C2 ⟨rfl, rfl, trivial⟩) ?_
      refine jm rfl ?_
      refine jS (rt_extract rfl rfl) ?_
      refine jS (rt_extract rfl rfl) ?_
      refine jT (ru_alloc rfl rfl rfl) ?_
      refine jO (ru_storeR rfl rfl rfl rfl rfl rfl) ?_
      refine ja rfl ?_
      refine RG.nil (by kernel_rfl) ?_
      repeat (first | refine js ?_ | refine jb ?_)
      refine jr ?_
      refine jS (ru_loadR rfl rfl rfl rfl) ?_
      refine jS (ru_call C3 ⟨rfl, trivial⟩) ?_
      refine jm rfl ?_
      refine jS (rt_extract rfl rfl) ?_
      refine jS (rt_extract rfl rfl) ?_
      refine jT (ru_alloc rfl rfl rfl) ?_
      refine jO (ru_storeR rfl rfl rfl rfl rfl rfl) ?_
      refine ja rfl ?_
      refine RG.nil (by kernel_rfl) ?_
      repeat (first | refine js ?_ | refine jb ?_)
      refine jr ?_
      refine jS (ru_loadR rfl rfl rfl rfl) ?_
      refine jS (ru_call C4 ⟨rfl, trivial⟩) ?_
      refine jm rfl ?_
      refine jS (rt_extract rfl rfl) ?_
      refine jS (rt_extract rfl rfl) ?_
      refine jT (ru_alloc rfl rfl rfl) ?_
      refine jO (ru_storeR rfl rfl rfl rfl rfl rfl) ?_
      refine ja rfl ?_
      refine RG.nil (by kernel_rfl) ?_
      repeat (first | refine js ?_ | refine jb ?_)
      refine jr ?_
      refine jm rfl ?_
      refine jS (rt_bin rfl rfl (fun w => run_eqi w _ _ _ _ _ _)) ?_
      refine jm rfl ?_
      first | refine RG.S0 (LT.run rfl rfl rfl (rt_move rfl)) ?_ | refine RG.S0 (LT.skip rfl rfl rfl) ?_
      first | refine RG.S0 (LT.run rfl rfl rfl (rt_move rfl)) ?_ | refine RG.S0 (LT.skip rfl rfl rfl) ?_
      first | refine RG.S0 (LT.run rfl rfl rfl (rt_bin rfl rfl (fun w => run_eqi w _ _ _ _ _ _))) ?_ | refine RG.S0 (LT.skip rfl rfl rfl) ?_
      first | refine jS (rt_pick_true rfl rfl) ?_ | refine jS (rt_pick_false rfl rfl) ?_
      refine jm rfl ?_
      first | refine RG.S0 (LT.run rfl rfl rfl (ru_loadR rfl rfl rfl rfl)) ?_ | refine RG.S0 (LT.skip rfl rfl rfl) ?_
      first | refine RG.S0 (LT.run rfl rfl rfl (ru_loadR rfl rfl rfl rfl)) ?_ | refine RG.S0 (LT.skip rfl rfl rfl) ?_
      first | refine RG.S0 (LT.run rfl rfl rfl (ru_call C5 ⟨rfl, rfl, trivial⟩)) ?_ | refine RG.S0 (LT.skip rfl rfl rfl) ?_
      first | refine jS (rt_pick_true rfl rfl) ?_ | refine jS (rt_pick_false rfl rfl) ?_
      refine jm rfl ?_
      first | refine RG.S0 (LT.run rfl rfl rfl (ru_call A trivial)) ?_ | refine RG.S0 (LT.skip rfl rfl rfl) ?_
      first | refine jS (rt_pick_true rfl rfl) ?_ | refine jS (rt_pick_false rfl rfl) ?_
      refine ja rfl ?_
      refine RG.nil (by kernel_rfl) ?_
      repeat (first | refine js ?_ | refine jb ?_)
      refine WpD.ret ?_
      exact ret1 rfl (.tmp rfl) (PLe.refl _)
  · refine fn_of_body Tryz.func5 rfl Tryz.ntmps5 rfl ?_
    intro w0 h0
    repeat (first | refine js ?_ | refine jb ?_)
    refine jr ?_
    refine jT (ru_boxR rfl rfl rfl) ?_
    refine ja rfl ?_
    refine RG.nil (by kernel_rfl) ?_
    repeat (first | refine js ?_ | refine jb ?_)
    refine jr ?_
    refine jS (ru_fieldAddr rfl rfl) ?_
    refine jS (ru_load1 rfl rfl rfl) ?_
    refine jS (ru_len rfl CSlice.ok) ?_
    refine jS (rt_bin_to rfl rfl (fun w => run_gti w _ _ _ _ _ _) (vbool (decide_eq_true (by omega)))) ?_
    refine RG.nil (by kernel_rfl) ?_
    repeat (first | refine js ?_ | refine jb ?_)
    refine WpD.condT rfl ?_
    repeat (first | refine js ?_ | refine jb ?_)
    refine jr ?_
    refine jS (ru_call A trivial) ?_
    refine ja rfl ?_
    refine RG.nil (by kernel_rfl) ?_
    repeat (first | refine js ?_ | refine jb ?_)
    refine WpD.ret ?_
    exact ret1 rfl (.tmp rfl) (PLe.refl _)
end Go.Proofs.YtpiflllcjgpkhaaGreatDoor

/- A scene's symbol that is handed to a law: its struct, opened. For any program. -/
namespace Go.Proofs.YtpiflllcjgpkhaaGreatDoor
open Go.RowKit Limb Go.ChangeShapes Go.WideShapes
/-- All cells of a world. -/
def wGH (W : World) : GH := fun b o => W.cell? ⟨b, o, none⟩
theorem wGH_holds (W : World) : Holds (wGH W) W := fun _ _ _ h => h
def byv (x : By) : List Value := [.int .u8 (x.b 0), .int .u8 (x.b 1), .int .u8 (x.b 2), .int .u8 (x.b 3), .int .u8 (x.b 4)]
def byvs (x : Nat → By) (n : Nat) : List Value := (List.range n).flatMap fun i => byv (x i)
theorem bys_vals (x : Nat → By) (n : Nat) : rows (bys x) n = (byvs x n).map ex := by
  unfold rows byvs
  rw [List.map_flatMap]
  rfl
theorem byvs_succ (x : Nat → By) (n : Nat) : byvs x (n + 1) = byvs x n ++ byv (x n) := by unfold byvs; rw [List.range_succ, List.flatMap_append]; simp
theorem byvs_len (x : Nat → By) : ∀ n, (byvs x n).length = n * 5
  | 0 => rfl
  | n + 1 => by rw [byvs_succ, List.length_append, byvs_len x n, Nat.succ_mul]; rfl
theorem byvs_one (x : Nat → By) (n : Nat) : ∀ v ∈ byvs x n, v.oneCell' = true := by
  intro v hv
  obtain ⟨i, _, hi⟩ := List.mem_flatMap.1 hv
  simp only [byv, List.mem_cons, List.not_mem_nil, or_false] at hi
  rcases hi with rfl | rfl | rfl | rfl | rfl <;> rfl
theorem byvs_cell {W : World} {b off : Nat} (x : Nat → By) : ∀ (n : Nat), (∀ i r, i < n → r < 5 → W.cell? ⟨b, off + i * 5 + r, none⟩ = some (.int .u8 ((x i).b r))) → ∀ j u, (byvs x n)[j]? = some u → W.cell? ⟨b, off + j, none⟩ = some u
  | 0, _, j, u, h => by simp [byvs] at h
  | n + 1, H, j, u, h => by
    rw [byvs_succ] at h
    have hl := byvs_len x n
    rcases Nat.lt_or_ge j (n * 5) with hj | hj
    · rw [List.getElem?_append_left (by omega)] at h
      exact byvs_cell x n (fun i r hi hr => H i r (by omega) hr) j u h
    · rw [List.getElem?_append_right (by omega), hl] at h
      obtain ⟨r, rfl⟩ : ∃ r, j = n * 5 + r := ⟨j - n * 5, by omega⟩
      rw [show n * 5 + r - n * 5 = r by omega] at h
      have hr : r < 5 := (List.getElem?_eq_some_iff.1 h).1
      have hc := H n r (by omega) hr
      rw [← Nat.add_assoc, hc, ← h]
      match r, hr with
      | 0, _ => rfl
      | 1, _ => rfl
      | 2, _ => rfl
      | 3, _ => rfl
      | 4, _ => rfl
section
variable {H : Type} {enc : TypeId × Value → H} {P : Program} {W : World} {base : Nat} {T t8 ts te : TypeId} {f0 f1 : Field}
theorem open_part {fuel : Nat} {sp : Nat → Bool} {held : Bool} {cs : List Value} {y : DataW H × List MemPlace} (h8 : P.underlying t8 = some (.int .u8)) (c0 : P.cellsOf t8 = 1) (he : P.underlying te = some (.array 5 t8)) (ce : P.cellsOf te = 5)
    (h : DataW.trod enc P W base sp held fuel te cs = some y) : ∃ x : By, cs = byv x := by
  obtain ⟨xs, m, _, hx, hl, hlen, hf⟩ := DataW.trod_array he h
  rw [ce] at hl
  obtain ⟨u0, u1, u2, u3, u4, rfl⟩ : ∃ u0 u1 u2 u3 u4, cs = [u0, u1, u2, u3, u4] := by
    match cs, hl with
    | [u0, u1, u2, u3, u4], _ => exact ⟨u0, u1, u2, u3, u4, rfl⟩
  obtain ⟨y0, y1, y2, y3, y4, rfl⟩ : ∃ y0 y1 y2 y3 y4, xs = [y0, y1, y2, y3, y4] := by
    match xs, hlen with
    | [y0, y1, y2, y3, y4], _ => exact ⟨y0, y1, y2, y3, y4, rfl⟩
  have g0 := hf 0 (by omega)
  have g1 := hf 1 (by omega)
  have g2 := hf 2 (by omega)
  have g3 := hf 3 (by omega)
  have g4 := hf 4 (by omega)
  rw [c0] at g0 g1 g2 g3 g4
  obtain ⟨z0, e0, _, w0⟩ := DataW.trod_int h8 (show DataW.trod enc P W base sp held m t8 [u0] = some y0 from g0)
  obtain ⟨z1, e1, _, w1⟩ := DataW.trod_int h8 (show DataW.trod enc P W base sp held m t8 [u1] = some y1 from g1)
  obtain ⟨z2, e2, _, w2⟩ := DataW.trod_int h8 (show DataW.trod enc P W base sp held m t8 [u2] = some y2 from g2)
  obtain ⟨z3, e3, _, w3⟩ := DataW.trod_int h8 (show DataW.trod enc P W base sp held m t8 [u3] = some y3 from g3)
  obtain ⟨z4, e4, _, w4⟩ := DataW.trod_int h8 (show DataW.trod enc P W base sp held m t8 [u4] = some y4 from g4)
  simp at e0 e1 e2 e3 e4
  subst e0 e1 e2 e3 e4
  have b0 := bounds_u8 w0
  have b1 := bounds_u8 w1
  have b2 := bounds_u8 w2
  have b3 := bounds_u8 w3
  have b4 := bounds_u8 w4
  refine ⟨⟨fun j => match j with | 0 => z0 | 1 => z1 | 2 => z2 | 3 => z3 | _ => z4, fun j => ?_, fun j => ?_⟩, rfl⟩
  · split <;> omega
  · split <;> omega
theorem open_Sym {v : Value} {d : DataW H} {p : List MemPlace} (hT : P.underlying T = some (.struct #[f0, f1])) (h0 : f0.type = t8) (o0 : f0.offset = 0) (h1 : f1.type = ts) (o1 : f1.offset = 1) (cT : P.cellsOf T = 2) (c0 : P.cellsOf t8 = 1) (c1 : P.cellsOf ts = 1)
    (h8 : P.underlying t8 = some (.int .u8)) (hs : P.underlying ts = some (.slice te)) (he : P.underlying te = some (.array 5 t8)) (ce : P.cellsOf te = 5)
    (hval : Value.okWide P W .any base T v) (h : DataW.Trod enc P W 0 (fun _ => true) true T v d p) :
    ∃ pk x m, (Lit.int .u8 pk).wf = true ∧ (aggP [ex (.int .u8 pk), slc 5 (rows (bys x) m) m]).p (wGH W) v := by
  obtain ⟨cs, rfl, hsz⟩ := okWide_struct hT hval
  obtain ⟨fuel, hf⟩ := h
  have hf : DataW.trod enc P W 0 (fun _ => true) true fuel T cs.toList = some (d, p) := hf
  obtain ⟨y0, y1, n, hx, hl, g0, g1⟩ := trod_struct2 hT hf
  rw [h0, o0, c0] at g0
  rw [h1, o1, c1] at g1
  obtain ⟨u0, u1, hcs⟩ : ∃ u0 u1, cs.toList = [u0, u1] := by
    rw [cT] at hl
    match hc : cs.toList, hl with
    | [u0, u1], _ => exact ⟨u0, u1, rfl⟩
  rw [hcs] at g0 g1
  obtain ⟨pk, e0, _, wpk⟩ := DataW.trod_int h8 (show DataW.trod enc P W 0 (fun _ => true) true n t8 [u0] = some y0 from g0)
  simp at e0
  subst e0
  have hag : cs = #[.int .u8 pk, u1] := by rw [← Array.toList_inj]; exact hcs
  subst hag
  have key : ∃ x m, (slc 5 (rows (bys x) m) m).p (wGH W) u1 := by
    rcases DataW.trod_slice hs (show DataW.trod enc P W 0 (fun _ => true) true n ts [u1] = some y1 from g1) with ⟨e1, _⟩ | ⟨a, len, cap, elems, rest, m, _, e1, _, hb, hlc, hcm, hlen, hel, _, _⟩
    · simp at e1
      subst e1
      exact ⟨fun _ => ⟨fun _ => 0, fun _ => by omega, fun _ => by omega⟩, 0, none, 0, rfl, Nat.le_refl _, Nat.zero_le _, fun _ => rfl, rfl, fun hn => absurd rfl hn⟩
    · simp at e1
      subst e1
      have each : ∀ i, i < len → ∃ x : By, W.cells? 0 (a.add (i * 5)) 5 = some (byv x) := by
        intro i hi
        have h2 := hel i hi
        rw [ce, List.getElem?_eq_getElem (by omega)] at h2
        obtain ⟨cs', q1, q2⟩ := Option.bind_eq_some_iff.1 h2
        obtain ⟨x, rfl⟩ := open_part h8 c0 he ce q2
        exact ⟨x, q1⟩
      have hch : ∃ x : Nat → By, ∀ i, i < len → W.cells? 0 (a.add (i * 5)) 5 = some (byv (x i)) := by
        refine ⟨fun i => if hi : i < len then (each i hi).choose else ⟨fun _ => 0, fun _ => by omega, fun _ => by omega⟩, fun i hi => ?_⟩
        dsimp only
        rw [dif_pos hi]
        exact (each i hi).choose_spec
      obtain ⟨x, hxx⟩ := hch
      refine ⟨x, len, some a, cap, rfl, hlc, hcm, (fun h => by cases h), rows_len (bys_len x) len, fun hne => ?_⟩
      have hpos : 0 < len := by
        rcases Nat.eq_zero_or_pos len with h | h
        · subst h; exact absurd rfl hne
        · exact h
      have hcell : ∀ i r, i < len → r < 5 → W.cell? ((a.add (i * 5)).add r) = some (.int .u8 ((x i).b r)) := by
        intro i r hi hr
        have := (World.cells?_some (hxx i hi)).2.2 r hr
        rw [this]
        match r, hr with
        | 0, _ => rfl
        | 1, _ => rfl
        | 2, _ => rfl
        | 3, _ => rfl
        | 4, _ => rfl
      obtain ⟨bb, off, spot⟩ := a
      have hspot : spot = none := by
        have h00 := hcell 0 0 hpos (by omega)
        have := World.cell?_spot h00
        simpa [Addr.add] using this
      subst hspot
      refine ⟨bb, off, byvs x len, rfl, by rw [bys_vals]; exact all2_ex (byvs_one x len), byvs_cell x len fun i r hi hr => ?_⟩
      have := hcell i r hi hr
      rwa [Addr.add_mid, Addr.add_mid] at this
  obtain ⟨x, m, hk⟩ := key
  exact ⟨pk, x, m, wpk, [.int .u8 pk, u1], rfl, rfl, rfl, hk, C1.c1 _ _ hk, trivial⟩
end
end Go.Proofs.YtpiflllcjgpkhaaGreatDoor

/- The statement Duals on a call with arguments. -/
namespace Go.Proofs.YtpiflllcjgpkhaaGreatDoor
open Go.RowKit Limb Num
theorem fn_trueW {P : Program} {En : Ev} {f : FuncId} {ps : List Pd} {vs : List Value} (h : Fn P En f ps (ex (.bool true))) (w : World) (he : En.e w) (ha : AllV (wGH w) ps vs) : Calls P f vs.toArray w fun e w' => e = .returned (.bool true) ∧ Below w.heap.size w w' := by
  refine (h (wGH w) w vs he (wGH_holds w) ha).mono ?_
  rintro e w' ⟨v, h', rfl, _, _, _, hb, hv⟩
  have hv : v = .bool true := hv
  exact ⟨by rw [hv], hb⟩
theorem law_LocalmassDuals (k : Int) (w : World) (v : Value) (hv : ∃ pk x m, (Lit.int .u8 pk).wf = true ∧ (aggP [ex (.int .u8 pk), slc 5 (rows (bys x) m) m]).p (wGH w) v) (wk : (Lit.int .u8 k).wf = true) (ht : TabD.e w) :
    Calls Tryz.prog 5 #[v, .int .u8 k] w fun e w' => e = .returned (.bool true) ∧ Below w.heap.size w w' := by
  obtain ⟨pk, x, m, wpk, hv⟩ := hv
  obtain ⟨p1, p2⟩ := bounds_u8 wpk
  obtain ⟨k1, k2⟩ := bounds_u8 wk
  exact fn_trueW (lduals pk x m k (by omega) (by omega) (by omega) (by omega)) w ht ⟨hv, rfl, trivial⟩
end Go.Proofs.YtpiflllcjgpkhaaGreatDoor

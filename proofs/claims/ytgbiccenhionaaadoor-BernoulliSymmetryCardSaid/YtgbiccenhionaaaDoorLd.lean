/- Statements of chapter 31: Number, Denominator; the reference's list. -/
import Derived.Test.YtgbiccenhionaaaDoorLc
set_option maxRecDepth 3000
namespace Go.Proofs.YtgbiccenhionaaaDoor
open Go.RowKit Limb Num
instance cbody3 : CBody Tryd.prog 3 := ⟨⟨_, Tryd.func3, rfl, by rfl⟩⟩
section
variable (En : Ev)
theorem gbinomial (n k : Nat) (hn : n ≤ 21) (hk : k ≤ n) : Fn Tryd.prog En 73 [ex (.int .i64 (n : Int)), ex (.int .i64 (k : Int))] (ex (.int .i64 (bin n k : Int))) := by
  refine fn_of_body Tryd.func73 rfl Tryd.ntmps73 rfl ?_
  intro w0 h0
  repeat (first | refine js ?_ | refine jb ?_)
  refine jr ?_
  refine ja rfl ?_
  refine RG.nil (by kernel_rfl) ?_
  repeat (first | refine js ?_ | refine jb ?_)
  refine jr ?_
  refine ja rfl ?_
  refine RG.nil (by kernel_rfl) ?_
  repeat (first | refine js ?_ | refine jb ?_)
  refine jr ?_
  refine ja rfl ?_
  refine RG.nil (by kernel_rfl) ?_
  repeat (first | refine js ?_ | refine jb ?_)
  refine WpD.loop (α := {i : Nat // i ≤ k}) (fun i => ⟨[(0, .one (ex (.int .i64 (n : Int)))), (1, .one (ex (.int .i64 (k : Int)))), (5, .one (ex (.int .i64 (bin n i.1 : Int)))), (6, .one (ex (.int .i64 (i.1 : Int))))], []⟩) (fun i => k - i.1) ⟨0, Nat.zero_le _⟩ ?_ ?_
  · refine Sub.mk ?_ ?_
    · repeat (first | exact trivial | refine jv rfl ?_ | refine jw rfl (js0 rfl) ?_ | refine jw rfl ⟨js0 rfl, js0 rfl⟩ ?_ | refine jx rfl ⟨js0 rfl, js0 rfl⟩ ?_ | refine jw rfl (clo_live (js0 rfl) (js0 rfl)) ?_ | refine ⟨⟨_, rfl, PLe.refl _⟩, trivial, ?_⟩)
    · repeat (first | exact trivial | refine jz ?_ | refine jy rfl ?_)
  rintro ⟨i, hi⟩
  dsimp only at hi ⊢
  by_cases hlt : i < k
  · have hb := bin_le ⟨n, by omega⟩ ⟨i, by omega⟩
    have hb2 := bin_le ⟨n, by omega⟩ ⟨i + 1, by omega⟩
    dsimp only at hb hb2
    have hm : bin n i * (n - i) ≤ 1000000 * 21 := Nat.mul_le_mul hb (by omega)
    have e1 : IntKind.i64.wrap ((n : Int) - (i : Int)) = ((n - i : Nat) : Int) := by rw [w64 (by omega) (by omega)]; omega
    have e2 : IntKind.i64.wrap ((bin n i : Int) * ((n - i : Nat) : Int)) = ((bin n i * (n - i) : Nat) : Int) := by rw [← Int.natCast_mul]; exact w64 (by omega) (by omega)
    have e3 : IntKind.i64.wrap ((i : Int) + 1) = ((i + 1 : Nat) : Int) := by rw [w64 (by omega) (by omega)]; rfl
    have e4 : IntKind.i64.wrap (((bin n i * (n - i) : Nat) : Int).tdiv ((i + 1 : Nat) : Int)) = ((bin n (i + 1) : Nat) : Int) := by
      rw [show ((bin n i * (n - i) : Nat) : Int).tdiv ((i + 1 : Nat) : Int) = ((bin n i * (n - i) / (i + 1) : Nat) : Int) from (Int.ofNat_tdiv _ _).symm]
      show IntKind.i64.wrap ((bin n (i + 1) : Nat) : Int) = _
      exact w64 (by omega) (by omega)
    repeat (first | refine js ?_ | refine jb ?_)
    refine jr ?_
    refine jm rfl ?_
    refine jm rfl ?_
    refine jS (rt_bin_to rfl rfl (fun w => run_lti w _ _ _ _ _ _) (vbool (decide_eq_true (by first | assumption | omega)))) ?_
    refine RG.nil (by kernel_rfl) ?_
    repeat (first | refine js ?_ | refine jb ?_)
    refine WpD.condT rfl ?_
    repeat (first | refine js ?_ | refine jb ?_)
    refine WpD.skip ?_
    repeat (first | refine js ?_ | refine jb ?_)
    refine jr ?_
    refine jm rfl ?_
    refine jm rfl ?_
    refine jm rfl ?_
    refine jS (rt_bin_to rfl rfl (fun w => run_subi w _ _ _ _ _ _) (vint e1)) ?_
    refine jS (rt_bin_to rfl rfl (fun w => run_muli w _ _ _ _ _ _) (vint e2)) ?_
    refine jm rfl ?_
    refine jS (rt_bin_to rfl rfl (fun w => run_addi w _ _ _ _ _ _) (vint e3)) ?_
    refine jS (rt_bin_to rfl rfl (fun w => run_quoi w _ _ _ _ _ _ (by first | decide | omega | assumption)) (vint e4)) ?_
    refine ja rfl ?_
    refine RG.nil (by kernel_rfl) ?_
    repeat (first | refine js ?_ | refine jb ?_)
    refine jr ?_
    refine jm rfl ?_
    refine jS (rt_bin_to rfl rfl (fun w => run_addi w _ _ _ _ _ _) (vint e3)) ?_
    refine ja rfl ?_
    refine RG.nil (by kernel_rfl) ?_
    refine ⟨⟨i + 1, by omega⟩, ?_, by dsimp only; omega⟩
    refine Sub.mk ?_ ?_
    · repeat (first | exact trivial | refine jv rfl ?_ | refine jw rfl (js0 rfl) ?_ | refine jw rfl ⟨js0 rfl, js0 rfl⟩ ?_ | refine jx rfl ⟨js0 rfl, js0 rfl⟩ ?_ | refine jw rfl (clo_live (js0 rfl) (js0 rfl)) ?_ | refine ⟨⟨_, rfl, PLe.refl _⟩, trivial, ?_⟩)
    · repeat (first | exact trivial | refine jz ?_ | refine jy rfl ?_)
  · have : i = k := by omega
    subst this
    repeat (first | refine js ?_ | refine jb ?_)
    refine jr ?_
    refine jm rfl ?_
    refine jm rfl ?_
    refine jS (rt_bin_to rfl rfl (fun w => run_lti w _ _ _ _ _ _) (vbool (decide_eq_false (by first | assumption | omega)))) ?_
    refine RG.nil (by kernel_rfl) ?_
    repeat (first | refine js ?_ | refine jb ?_)
    refine WpD.condF rfl ?_
    repeat (first | refine js ?_ | refine jb ?_)
    refine WpD.exit ?_
    repeat (first | refine js ?_ | refine jb ?_)
    refine jr ?_
    refine jm rfl ?_
    refine ja rfl ?_
    refine RG.nil (by kernel_rfl) ?_
    repeat (first | refine js ?_ | refine jb ?_)
    refine WpD.ret ?_
    exact ret1 rfl (.tmp rfl) (PLe.refl _)
theorem gdiv (a b : Rat) (ha : Sz 134217728 a) (hb : Sz 134217728 b) (h : b ≠ 0) : Fn Tryd.prog En 74 [qC a, qC b] (qC (a / b)) := by
  have C1 := kqquo En a b ha hb h
  refine fn_of_body Tryd.func74 rfl Tryd.ntmps74 rfl ?_
  intro w0 h0
  repeat (first | refine js ?_ | refine jb ?_)
  refine jr ?_
  refine jT (ru_boxR rfl rfl rfl) ?_
  refine jT (ru_boxR rfl rfl rfl) ?_
  refine jT (ru_alloc rfl rfl rfl) ?_
  refine RG.nil (by kernel_rfl) ?_
  repeat (first | refine js ?_ | refine jb ?_)
  refine jr ?_
  refine jS (ru_loadR rfl rfl rfl rfl) ?_
  refine jS (ru_loadR rfl rfl rfl rfl) ?_
  refine jS (ru_call C1 ⟨rfl, rfl, trivial⟩) ?_
  refine jm rfl ?_
  refine jS (rt_extract rfl rfl) ?_
  refine jS (rt_extract rfl rfl) ?_
  refine jT (ru_alloc rfl rfl rfl) ?_
  refine jO (ru_storeR rfl rfl rfl rfl rfl rfl) ?_
  refine ja rfl ?_
  refine RG.nil (by kernel_rfl) ?_
  repeat (first | refine js ?_ | refine jb ?_)
  refine jr ?_
  refine jS (ru_loadR rfl rfl rfl rfl) ?_
  refine jO (ru_storeR rfl rfl rfl rfl rfl rfl) ?_
  refine RG.nil (by kernel_rfl) ?_
  repeat (first | refine js ?_ | refine jb ?_)
  refine WpD.ret ?_
  exact ret1 rfl (.cell rfl rfl CRow.ok rfl) (PLe.refl _)
set_option maxHeartbeats 1000000 in
theorem gnumbers (k : Nat) (hk : k ≤ 20) : Fn Tryd.prog En 38 [ex (.int .i64 (k : Int))] (slc 4 (rows bcells (k + 1)) (k + 1)) := by
  have W1 := qsmall En 1 (by omega) (by omega)
  have W0 := qsmall En 0 (by omega) (by omega)
  refine fn_of_body Tryd.func38 rfl Tryd.ntmps38 rfl ?_
  intro w0 h0
  repeat (first | refine js ?_ | refine jb ?_)
  refine jr ?_
  refine ja rfl ?_
  refine RG.nil (by kernel_rfl) ?_
  repeat (first | refine js ?_ | refine jb ?_)
  refine jr ?_
  refine jS (ru_call W1 ⟨rfl, trivial⟩) ?_
  refine RG.SW (LT.plain rfl (ru_buildA 508 (ps := [(_, _)]) ⟨rfl, Part.c rfl, trivial⟩ rfl rfl rfl rfl rfl rfl)) rfl ?_
  refine ja rfl ?_
  refine RG.nil (by kernel_rfl) ?_
  repeat (first | refine js ?_ | refine jb ?_)
  refine jr ?_
  refine ja rfl ?_
  refine RG.nil (by kernel_rfl) ?_
  repeat (first | refine js ?_ | refine jb ?_)
  refine WpD.loop (α := {n : Nat // 1 ≤ n ∧ n ≤ k + 1}) (fun n => ⟨[(0, .one (ex (.int .i64 (k : Int)))), (3, .app 503 4 n.1), (4, .one (ex (.int .i64 (n.1 : Int))))], [(503, rows bcells n.1), (753, [])]⟩) (fun n => k + 1 - n.1) ⟨1, by omega, by omega⟩ ?_ ?_
  · refine Sub.ren 503 508 rfl ?_ ?_ rfl
    · repeat (first | exact trivial | refine ⟨.inl ⟨⟨_, rfl, PLe.refl _⟩, trivial, trivial⟩, ?_⟩ | refine ⟨.inr ⟨_, _, rfl, .inl rfl, ⟨Option.some_ne_none _, Option.some_ne_none _⟩⟩, ?_⟩ | refine ⟨.inl ⟨⟨_, rfl, rfl⟩, Option.some_ne_none _, ⟨(by decide), (by decide)⟩⟩, ?_⟩ | refine ⟨.inl ⟨⟨_, rfl, rfl⟩, ⟨Option.some_ne_none _, Option.some_ne_none _⟩, ⟨(by decide), (by decide), (by decide), (by decide)⟩⟩, ?_⟩ | refine ⟨.inl ⟨⟨_, rfl, rfl⟩, clo_live (Option.some_ne_none _) (Option.some_ne_none _), clo_avoid (by decide) (by decide) (by decide) (by decide)⟩, ?_⟩ | refine ⟨.inr ⟨_, _, rfl, .inr ⟨(by omega), rfl⟩, Option.some_ne_none _⟩, ?_⟩)
    · repeat (first | exact trivial | refine ⟨.inr ⟨(by decide), .inr rfl⟩, ?_⟩ | refine ⟨.inl ⟨rfl, _, rfl, PsLe.refl _⟩, ?_⟩ | refine ⟨.inr ⟨(by decide), .inl ⟨(by decide), _, rfl, PsLe.refl _⟩⟩, ?_⟩)
  rintro ⟨n, hn1, hn2⟩
  dsimp only at hn1 hn2 ⊢
  by_cases hle : n ≤ k
  · repeat (first | refine js ?_ | refine jb ?_)
    refine jr ?_
    refine jm rfl ?_
    refine jm rfl ?_
    refine jS (rt_bin_to rfl rfl (fun w => run_lei w _ _ _ _ _ _) (vbool (decide_eq_true (by first | assumption | omega)))) ?_
    refine RG.nil (by kernel_rfl) ?_
    repeat (first | refine js ?_ | refine jb ?_)
    refine WpD.condT rfl ?_
    repeat (first | refine js ?_ | refine jb ?_)
    refine WpD.skip ?_
    repeat (first | refine js ?_ | refine jb ?_)
    refine jr ?_
    refine jS (ru_call W0 ⟨rfl, trivial⟩) ?_
    refine jT (ru_alloc rfl rfl rfl) ?_
    refine jO (ru_storeR rfl rfl rfl rfl rfl rfl) ?_
    refine RG.nil (by kernel_rfl) ?_
    repeat (first | refine js ?_ | refine jb ?_)
    refine jr ?_
    refine ja rfl ?_
    refine RG.nil (by kernel_rfl) ?_
    repeat (first | refine js ?_ | refine jb ?_)
    refine WpD.loop (α := {i : Nat // i ≤ n}) (fun i => ⟨[(0, .one (ex (.int .i64 (k : Int)))), (3, .app 503 4 n), (4, .one (ex (.int .i64 (n : Int)))), (5, .ptr 5 0), (6, .one (ex (.int .i64 (i.1 : Int))))], [(503, rows bcells n), (753, []), (5, qCells (psum n i.1))]⟩) (fun i => n - i.1) ⟨0, Nat.zero_le _⟩ ?_ ?_
    · refine Sub.mk ?_ ?_
      · repeat (first | exact trivial | refine jv rfl ?_ | refine jw rfl (js0 rfl) ?_ | refine jw rfl ⟨js0 rfl, js0 rfl⟩ ?_ | refine jx rfl ⟨js0 rfl, js0 rfl⟩ ?_ | refine jw rfl (clo_live (js0 rfl) (js0 rfl)) ?_ | refine ⟨⟨_, rfl, PLe.refl _⟩, trivial, ?_⟩)
      · repeat (first | exact trivial | refine jz ?_ | refine jy rfl ?_)
    rintro ⟨i, hi⟩
    dsimp only at hi ⊢
    by_cases hlt : i < n
    · have hb := bin_le ⟨n + 1, by omega⟩ ⟨i, by omega⟩
      dsimp only at hb
      have hlen := rows_len bcells_len n
      have hq : ((rows bcells n).drop (i * 4)).take 4 = qCells (bern i) := rows_get bcells_len hlt
      have hk4 : i * 4 + 4 ≤ (rows bcells n).length := by omega
      have e1 : IntKind.i64.wrap ((n : Int) + 1) = ((n + 1 : Nat) : Int) := by rw [w64 (by omega) (by omega)]; rfl
      have e3 : IntKind.i64.wrap ((i : Int) + 1) = ((i + 1 : Nat) : Int) := by rw [w64 (by omega) (by omega)]; rfl
      have S1 := bern_sz (i := i) (by omega)
      have S2 := psum_sz (n := n) (i := i) (by omega) (by omega)
      have S3 := sz_z (z := (bin (n + 1) i : Int)) (by omega) (by omega)
      have C1 := gbinomial En (n + 1) i (by omega) (by omega)
      have C2 := qsmall En (bin (n + 1) i : Int) (by omega) (by omega)
      have C3 := kqmul En ((bin (n + 1) i : Int) : Rat) (bern i) (S3.mono (by omega)) (S1.mono (by omega))
      have C4 := kqadd En (psum n i) (((bin (n + 1) i : Int) : Rat) * bern i) (S2.mono (by omega)) ((szq_mul S3 S1).mono (by omega))
      repeat (first | refine js ?_ | refine jb ?_)
      refine jr ?_
      refine jm rfl ?_
      refine jm rfl ?_
      refine jS (rt_bin_to rfl rfl (fun w => run_lti w _ _ _ _ _ _) (vbool (decide_eq_true (by first | assumption | omega)))) ?_
      refine RG.nil (by kernel_rfl) ?_
      repeat (first | refine js ?_ | refine jb ?_)
      refine WpD.condT rfl ?_
      repeat (first | refine js ?_ | refine jb ?_)
      refine WpD.skip ?_
      repeat (first | refine js ?_ | refine jb ?_)
      refine jr ?_
      refine jS (ru_loadR rfl rfl rfl rfl) ?_
      refine jm rfl ?_
      refine jS (rt_bin_to rfl rfl (fun w => run_addi w _ _ _ _ _ _) (vint e1)) ?_
      refine jm rfl ?_
      refine jS (ru_call C1 ⟨rfl, rfl, trivial⟩) ?_
      refine jS (ru_call C2 ⟨rfl, trivial⟩) ?_
      refine jm rfl ?_
      refine jm rfl ?_
      refine jS (ru_indexA rfl rfl hlt rfl) ?_
      refine jS (ru_loadRS rfl rfl (by first | assumption | omega) (by assumption)) ?_
      refine jS (ru_call C3 ⟨rfl, rfl, trivial⟩) ?_
      refine jS (ru_call C4 ⟨rfl, rfl, trivial⟩) ?_
      refine jO (ru_storeR rfl rfl rfl rfl rfl rfl) ?_
      refine RG.nil (by kernel_rfl) ?_
      repeat (first | refine js ?_ | refine jb ?_)
      refine jr ?_
      refine jm rfl ?_
      refine jS (rt_bin_to rfl rfl (fun w => run_addi w _ _ _ _ _ _) (vint e3)) ?_
      refine ja rfl ?_
      refine RG.nil (by kernel_rfl) ?_
      refine ⟨⟨i + 1, by omega⟩, ?_, by dsimp only; omega⟩
      refine Sub.mk ?_ ?_
      · repeat (first | exact trivial | refine jv rfl ?_ | refine jw rfl (js0 rfl) ?_ | refine jw rfl ⟨js0 rfl, js0 rfl⟩ ?_ | refine jx rfl ⟨js0 rfl, js0 rfl⟩ ?_ | refine jw rfl (clo_live (js0 rfl) (js0 rfl)) ?_ | refine ⟨⟨_, rfl, PLe.refl _⟩, trivial, ?_⟩)
      · repeat (first | exact trivial | refine jz ?_ | refine jy rfl ?_)
    · have : i = n := by omega
      subst this
      have e1 : IntKind.i64.wrap ((i : Int) + 1) = (i : Int) + 1 := w64 (by omega) (by omega)
      have e3 : IntKind.i64.wrap ((i : Int) + 1) = ((i + 1 : Nat) : Int) := by rw [w64 (by omega) (by omega)]; rfl
      have S2 := psum_sz (n := i) (i := i) (by omega) (by omega)
      have S3 := sz_z (z := (i : Int) + 1) (by omega) (by omega)
      have C0 := kqneg En (psum i i) (S2.mono (by omega))
      have C1 := qsmall En ((i : Int) + 1) (by omega) (by omega)
      have C2 := gdiv En (-(psum i i)) (((i : Int) + 1 : Int) : Rat) ((szq_neg S2).mono (by omega)) (S3.mono (by omega)) (by intro h; have := Rat.intCast_eq_zero_iff.1 h; omega)
      have hneg : -(psum i i) / (((i : Int) + 1 : Int) : Rat) = bern i := by
        rw [← bern_step hn1 (by omega), Rat.intCast_neg]
        generalize psum i i = p
        generalize (((i : Int) + 1 : Int) : Rat) = b
        grind
      rw [hneg] at C2
      have hlen := rows_len bcells_len i
      have hr : rows bcells i ++ qCells (bern i) = rows bcells (i + 1) := (rows_succ bcells i).symm
      repeat (first | refine js ?_ | refine jb ?_)
      refine jr ?_
      refine jm rfl ?_
      refine jm rfl ?_
      refine jS (rt_bin_to rfl rfl (fun w => run_lti w _ _ _ _ _ _) (vbool (decide_eq_false (by first | assumption | omega)))) ?_
      refine RG.nil (by kernel_rfl) ?_
      repeat (first | refine js ?_ | refine jb ?_)
      refine WpD.condF rfl ?_
      repeat (first | refine js ?_ | refine jb ?_)
      refine WpD.exit ?_
      repeat (first | refine js ?_ | refine jb ?_)
      refine jr ?_
      refine jm rfl ?_
      refine jS (ru_loadR rfl rfl rfl rfl) ?_
      refine jS (ru_call C0 ⟨rfl, trivial⟩) ?_
      refine jm rfl ?_
      refine jS (rt_bin_to rfl rfl (fun w => run_addi w _ _ _ _ _ _) (vint e1)) ?_
      refine jS (ru_call C1 ⟨rfl, trivial⟩) ?_
      refine jS (ru_call C2 ⟨rfl, rfl, trivial⟩) ?_
      refine jS (rc_buildR (ps := [(_, _)]) ⟨rfl, Part.c rfl, trivial⟩ rfl rfl rfl) ?_
      refine RG.SW (LT.plain rfl (ru_appendA 540 rfl rfl hlen rfl (by omega) (by omega) rfl rfl rfl rfl rfl hr)) rfl ?_
      refine ja rfl ?_
      refine RG.nil (by kernel_rfl) ?_
      repeat (first | refine js ?_ | refine jb ?_)
      refine jr ?_
      refine jm rfl ?_
      refine jS (rt_bin_to rfl rfl (fun w => run_addi w _ _ _ _ _ _) (vint e3)) ?_
      refine ja rfl ?_
      refine RG.nil (by kernel_rfl) ?_
      refine ⟨⟨i + 1, by omega, by omega⟩, ?_, by dsimp only; omega⟩
      refine Sub.ren 503 540 rfl ?_ ?_ rfl
      · repeat (first | exact trivial | refine ⟨.inl ⟨⟨_, rfl, PLe.refl _⟩, trivial, trivial⟩, ?_⟩ | refine ⟨.inr ⟨_, _, rfl, .inl rfl, ⟨Option.some_ne_none _, Option.some_ne_none _⟩⟩, ?_⟩ | refine ⟨.inl ⟨⟨_, rfl, rfl⟩, Option.some_ne_none _, ⟨(by decide), (by decide)⟩⟩, ?_⟩ | refine ⟨.inl ⟨⟨_, rfl, rfl⟩, ⟨Option.some_ne_none _, Option.some_ne_none _⟩, ⟨(by decide), (by decide), (by decide), (by decide)⟩⟩, ?_⟩ | refine ⟨.inl ⟨⟨_, rfl, rfl⟩, clo_live (Option.some_ne_none _) (Option.some_ne_none _), clo_avoid (by decide) (by decide) (by decide) (by decide)⟩, ?_⟩ | refine ⟨.inr ⟨_, _, rfl, .inr ⟨(by omega), rfl⟩, Option.some_ne_none _⟩, ?_⟩)
      · repeat (first | exact trivial | refine ⟨.inr ⟨(by decide), .inr rfl⟩, ?_⟩ | refine ⟨.inl ⟨rfl, _, rfl, PsLe.refl _⟩, ?_⟩ | refine ⟨.inr ⟨(by decide), .inl ⟨(by decide), _, rfl, PsLe.refl _⟩⟩, ?_⟩)
  · have : n = k + 1 := by omega
    subst this
    repeat (first | refine js ?_ | refine jb ?_)
    refine jr ?_
    refine jm rfl ?_
    refine jm rfl ?_
    refine jS (rt_bin_to rfl rfl (fun w => run_lei w _ _ _ _ _ _) (vbool (decide_eq_false (by first | assumption | omega)))) ?_
    refine RG.nil (by kernel_rfl) ?_
    repeat (first | refine js ?_ | refine jb ?_)
    refine WpD.condF rfl ?_
    repeat (first | refine js ?_ | refine jb ?_)
    refine WpD.exit ?_
    repeat (first | refine js ?_ | refine jb ?_)
    refine WpD.sub (τ := ⟨[(3, .one (slc 4 (rows bcells (k + 1)) (k + 1)))], []⟩) ?_ ?_
    · have hlen := rows_len bcells_len (k + 1)
      refine Sub.pub 503 rfl rfl ⟨.inr (.inr (.inl ⟨_, _, _, rfl, rfl, hlen, PLe.refl _⟩)), trivial⟩ trivial rfl

    repeat (first | refine js ?_ | refine jb ?_)
    refine jr ?_
    refine jm rfl ?_
    refine ja rfl ?_
    refine RG.nil (by kernel_rfl) ?_
    repeat (first | refine js ?_ | refine jb ?_)
    refine WpD.ret ?_
    exact ret1 rfl (.tmp rfl) (PLe.refl _)
theorem gnumber (k : Nat) (hk : k ≤ 20) : Fn Tryd.prog En 13 [ex (.int .i64 (k : Int))] (tupP [qC (bern k), ex (.int .i64 0)]) := by
  have N1 := gnumbers En k hk
  have hlt : k < k + 1 := by omega
  have hq : ((rows bcells (k + 1)).drop (k * 4)).take 4 = qCells (bern k) := rows_get bcells_len hlt
  refine fn_of_body Tryd.func13 rfl Tryd.ntmps13 rfl ?_
  intro w0 h0
  repeat (first | refine js ?_ | refine jb ?_)
  refine jr ?_
  refine jT (ru_alloc rfl rfl rfl) ?_
  refine ja rfl ?_
  refine RG.nil (by kernel_rfl) ?_
  repeat (first | refine js ?_ | refine jb ?_)
  refine jr ?_
  refine jm rfl ?_
  refine jS (rt_bin_to rfl rfl (fun w => run_lti w _ _ _ _ _ _) (vbool (decide_eq_false (by first | assumption | omega)))) ?_
  refine jm rfl ?_
  refine RG.S0 (LT.run rfl rfl rfl (rt_move rfl)) ?_
  refine RG.S0 (LT.run rfl rfl rfl (rt_bin_to rfl rfl (fun w => run_gti w _ _ _ _ _ _) (vbool (decide_eq_false (by first | assumption | omega))))) ?_
  refine jS (rt_pick_false rfl rfl) ?_
  refine RG.nil (by kernel_rfl) ?_
  repeat (first | refine js ?_ | refine jb ?_)
  refine WpD.condF rfl ?_
  repeat (first | refine js ?_ | refine jb ?_)
  refine WpD.skip ?_
  repeat (first | refine js ?_ | refine jb ?_)
  refine jr ?_
  refine jm rfl ?_
  refine jS (ru_call N1 ⟨rfl, trivial⟩) ?_
  refine jm rfl ?_
  refine jS (rc_indexS rfl rfl hlt hq) ?_
  refine jS (rc_loadR rfl rfl rfl) ?_
  refine jO (ru_storeR rfl rfl rfl rfl rfl rfl) ?_
  refine ja rfl ?_
  refine RG.nil (by kernel_rfl) ?_
  repeat (first | refine js ?_ | refine jb ?_)
  refine WpD.ret ?_
  exact ret2 rfl (.cell rfl rfl CRow.ok rfl) (.tmp rfl) (PLe.refl _)
/-- The Rat that is all zeros. -/
def zero4 : Pd := aggP [ex (.bool false), ex (.slice none 0 0), ex (.bool false), ex (.slice none 0 0)]
theorem bnumber_out (k : Int) (hk : ¬ (0 ≤ k ∧ k ≤ 20)) : Fn Tryd.prog En 12 [ex (.int .i64 k)] (tupP [zero4, ex (.int .i64 1)]) := by
  by_cases h : k < 0
  · refine fn_of_body Tryd.func12 rfl Tryd.ntmps12 rfl ?_
    intro w0 h0
    repeat (first | refine js ?_ | refine jb ?_)
    refine jr ?_
    refine jT (ru_alloc rfl rfl rfl) ?_
    refine ja rfl ?_
    refine RG.nil (by kernel_rfl) ?_
    repeat (first | refine js ?_ | refine jb ?_)
    refine jr ?_
    refine jm rfl ?_
    refine jS (rt_bin_to rfl rfl (fun w => run_lti w _ _ _ _ _ _) (vbool (decide_eq_true (by first | assumption | omega)))) ?_
    refine jm rfl ?_
    refine RG.S0 (LT.skip rfl rfl rfl) ?_
    refine RG.S0 (LT.skip rfl rfl rfl) ?_
    refine jS (rt_pick_true rfl rfl) ?_
    refine RG.nil (by kernel_rfl) ?_
    repeat (first | refine js ?_ | refine jb ?_)
    refine WpD.condT rfl ?_
    repeat (first | refine js ?_ | refine jb ?_)
    refine jr ?_
    refine jS (ru_build (ps := []) trivial rfl) ?_
    refine jO (ru_storeR rfl rfl rfl rfl rfl rfl) ?_
    refine ja rfl ?_
    refine RG.nil (by kernel_rfl) ?_
    repeat (first | refine js ?_ | refine jb ?_)
    refine WpD.ret ?_
    exact ret2 rfl (.cell rfl rfl CRow.ok rfl) (.tmp rfl) (PLe.refl _)
  · refine fn_of_body Tryd.func12 rfl Tryd.ntmps12 rfl ?_
    intro w0 h0
    repeat (first | refine js ?_ | refine jb ?_)
    refine jr ?_
    refine jT (ru_alloc rfl rfl rfl) ?_
    refine ja rfl ?_
    refine RG.nil (by kernel_rfl) ?_
    repeat (first | refine js ?_ | refine jb ?_)
    refine jr ?_
    refine jm rfl ?_
    refine jS (rt_bin_to rfl rfl (fun w => run_lti w _ _ _ _ _ _) (vbool (decide_eq_false (by first | assumption | omega)))) ?_
    refine jm rfl ?_
    refine RG.S0 (LT.run rfl rfl rfl (rt_move rfl)) ?_
    refine RG.S0 (LT.run rfl rfl rfl (rt_bin_to rfl rfl (fun w => run_gti w _ _ _ _ _ _) (vbool (decide_eq_true (by first | assumption | omega))))) ?_
    refine jS (rt_pick_false rfl rfl) ?_
    refine RG.nil (by kernel_rfl) ?_
    repeat (first | refine js ?_ | refine jb ?_)
    refine WpD.condT rfl ?_
    repeat (first | refine js ?_ | refine jb ?_)
    refine jr ?_
    refine jS (ru_build (ps := []) trivial rfl) ?_
    refine jO (ru_storeR rfl rfl rfl rfl rfl rfl) ?_
    refine ja rfl ?_
    refine RG.nil (by kernel_rfl) ?_
    repeat (first | refine js ?_ | refine jb ?_)
    refine WpD.ret ?_
    exact ret2 rfl (.cell rfl rfl CRow.ok rfl) (.tmp rfl) (PLe.refl _)
theorem gnumber_out (k : Int) (hk : ¬ (0 ≤ k ∧ k ≤ 20)) : Fn Tryd.prog En 13 [ex (.int .i64 k)] (tupP [zero4, ex (.int .i64 1)]) := by
  by_cases h : k < 0
  · refine fn_of_body Tryd.func13 rfl Tryd.ntmps13 rfl ?_
    intro w0 h0
    repeat (first | refine js ?_ | refine jb ?_)
    refine jr ?_
    refine jT (ru_alloc rfl rfl rfl) ?_
    refine ja rfl ?_
    refine RG.nil (by kernel_rfl) ?_
    repeat (first | refine js ?_ | refine jb ?_)
    refine jr ?_
    refine jm rfl ?_
    refine jS (rt_bin_to rfl rfl (fun w => run_lti w _ _ _ _ _ _) (vbool (decide_eq_true (by first | assumption | omega)))) ?_
    refine jm rfl ?_
    refine RG.S0 (LT.skip rfl rfl rfl) ?_
    refine RG.S0 (LT.skip rfl rfl rfl) ?_
    refine jS (rt_pick_true rfl rfl) ?_
    refine RG.nil (by kernel_rfl) ?_
    repeat (first | refine js ?_ | refine jb ?_)
    refine WpD.condT rfl ?_
    repeat (first | refine js ?_ | refine jb ?_)
    refine jr ?_
    refine jS (ru_build (ps := []) trivial rfl) ?_
    refine jO (ru_storeR rfl rfl rfl rfl rfl rfl) ?_
    refine ja rfl ?_
    refine RG.nil (by kernel_rfl) ?_
    repeat (first | refine js ?_ | refine jb ?_)
    refine WpD.ret ?_
    exact ret2 rfl (.cell rfl rfl CRow.ok rfl) (.tmp rfl) (PLe.refl _)
  · refine fn_of_body Tryd.func13 rfl Tryd.ntmps13 rfl ?_
    intro w0 h0
    repeat (first | refine js ?_ | refine jb ?_)
    refine jr ?_
    refine jT (ru_alloc rfl rfl rfl) ?_
    refine ja rfl ?_
    refine RG.nil (by kernel_rfl) ?_
    repeat (first | refine js ?_ | refine jb ?_)
    refine jr ?_
    refine jm rfl ?_
    refine jS (rt_bin_to rfl rfl (fun w => run_lti w _ _ _ _ _ _) (vbool (decide_eq_false (by first | assumption | omega)))) ?_
    refine jm rfl ?_
    refine RG.S0 (LT.run rfl rfl rfl (rt_move rfl)) ?_
    refine RG.S0 (LT.run rfl rfl rfl (rt_bin_to rfl rfl (fun w => run_gti w _ _ _ _ _ _) (vbool (decide_eq_true (by first | assumption | omega))))) ?_
    refine jS (rt_pick_false rfl rfl) ?_
    refine RG.nil (by kernel_rfl) ?_
    repeat (first | refine js ?_ | refine jb ?_)
    refine WpD.condT rfl ?_
    repeat (first | refine js ?_ | refine jb ?_)
    refine jr ?_
    refine jS (ru_build (ps := []) trivial rfl) ?_
    refine jO (ru_storeR rfl rfl rfl rfl rfl rfl) ?_
    refine ja rfl ?_
    refine RG.nil (by kernel_rfl) ?_
    repeat (first | refine js ?_ | refine jb ?_)
    refine WpD.ret ?_
    exact ret2 rfl (.cell rfl rfl CRow.ok rfl) (.tmp rfl) (PLe.refl _)
theorem qsame0 : Fn Tryd.prog En 14 [zero4, zero4] (ex (.bool true)) := by
  have C1 := (fsame En 0 0 (by decide) (by decide)).arg (ps := [aggP [ex (.bool false), ex (.slice none 0 0)], aggP [ex (.bool false), ex (.slice none 0 0)]]) ⟨zC_nil, zC_nil, trivial⟩
  rw [decide_eq_true rfl] at C1
  refine fn_of_body Tryd.func14 rfl Tryd.ntmps14 rfl ?_
  intro w0 h0
  repeat (first | refine js ?_ | refine jb ?_)
  refine jr ?_
  refine jT (ru_boxR rfl rfl rfl) ?_
  refine jT (ru_boxR rfl rfl rfl) ?_
  refine ja rfl ?_
  refine RG.nil (by kernel_rfl) ?_
  repeat (first | refine js ?_ | refine jb ?_)
  refine jr ?_
  refine jS (ru_fieldAddr rfl rfl) ?_
  refine jS (ru_loadR rfl rfl rfl rfl) ?_
  refine jS (ru_fieldAddr rfl rfl) ?_
  refine jS (ru_loadR rfl rfl rfl rfl) ?_
  refine jS (ru_call C1 ⟨rfl, rfl, trivial⟩) ?_
  refine jm rfl ?_
  first | refine RG.S0 (LT.run rfl rfl rfl (ru_fieldAddr rfl rfl)) ?_ | refine RG.S0 (LT.skip rfl rfl rfl) ?_
  first | refine RG.S0 (LT.run rfl rfl rfl (ru_loadR rfl rfl rfl rfl)) ?_ | refine RG.S0 (LT.skip rfl rfl rfl) ?_
  first | refine RG.S0 (LT.run rfl rfl rfl (ru_fieldAddr rfl rfl)) ?_ | refine RG.S0 (LT.skip rfl rfl rfl) ?_
  first | refine RG.S0 (LT.run rfl rfl rfl (ru_loadR rfl rfl rfl rfl)) ?_ | refine RG.S0 (LT.skip rfl rfl rfl) ?_
  first | refine RG.S0 (LT.run rfl rfl rfl (ru_call C1 ⟨rfl, rfl, trivial⟩)) ?_ | refine RG.S0 (LT.skip rfl rfl rfl) ?_
  first | refine jS (rt_pick_true rfl rfl) ?_ | refine jS (rt_pick_false rfl rfl) ?_
  refine ja rfl ?_
  refine RG.nil (by kernel_rfl) ?_
  repeat (first | refine js ?_ | refine jb ?_)
  refine WpD.ret ?_
  exact ret1 rfl (.tmp rfl) (PLe.refl _)
end
theorem lnumber (k : Int) (sm : Bool) : Fn Tryd.prog TabE 3 [ex (.int .i64 k), ex (.bool sm)] (ex (.bool true)) := by
  refine fn_of_body Tryd.func3 rfl Tryd.ntmps3 rfl ?_
  intro w0 h0
  repeat (first | refine js ?_ | refine jb ?_)
  refine jr ?_
  refine ja rfl ?_
  refine RG.nil (by kernel_rfl) ?_
  refine WpD.cut (α := Int) (fun e => ⟨[(0, .one (ex (.int .i64 e)))], []⟩) ?_ ?_
  · cases sm with
    | true =>
      repeat (first | refine js ?_ | refine jb ?_)
      refine jr ?_
      refine jm rfl ?_
      refine RG.nil (by kernel_rfl) ?_
      repeat (first | refine js ?_ | refine jb ?_)
      refine WpD.condT rfl ?_
      repeat (first | refine js ?_ | refine jb ?_)
      refine jr ?_
      refine jm rfl ?_
      refine jS (rt_bin rfl rfl (fun w => run_remi w _ _ _ _ _ _ (by first | decide | omega | assumption))) ?_
      refine ja rfl ?_
      refine RG.nil (by kernel_rfl) ?_
      refine ⟨k.tmod 24, ?_⟩
      refine Sub.mk ?_ ?_
      · repeat (first | exact trivial | refine jv rfl ?_ | refine jw rfl (js0 rfl) ?_ | refine jw rfl ⟨js0 rfl, js0 rfl⟩ ?_ | refine jx rfl ⟨js0 rfl, js0 rfl⟩ ?_ | refine jw rfl (clo_live (js0 rfl) (js0 rfl)) ?_ | refine ⟨⟨_, rfl, PLe.refl _⟩, trivial, ?_⟩)
      · repeat (first | exact trivial | refine jz ?_ | refine jy rfl ?_)
    | false =>
      repeat (first | refine js ?_ | refine jb ?_)
      refine jr ?_
      refine jm rfl ?_
      refine RG.nil (by kernel_rfl) ?_
      repeat (first | refine js ?_ | refine jb ?_)
      refine WpD.condF rfl ?_
      repeat (first | refine js ?_ | refine jb ?_)
      refine WpD.skip ?_
      refine ⟨k, ?_⟩
      refine Sub.mk ?_ ?_
      · repeat (first | exact trivial | refine jv rfl ?_ | refine jw rfl (js0 rfl) ?_ | refine jw rfl ⟨js0 rfl, js0 rfl⟩ ?_ | refine jx rfl ⟨js0 rfl, js0 rfl⟩ ?_ | refine jw rfl (clo_live (js0 rfl) (js0 rfl)) ?_ | refine ⟨⟨_, rfl, PLe.refl _⟩, trivial, ?_⟩)
      · repeat (first | exact trivial | refine jz ?_ | refine jy rfl ?_)
  intro e
  have hb : ∀ x : Int, (x == x) = true := by simp
  by_cases hk : 0 ≤ e ∧ e ≤ 20
  · obtain ⟨m, rfl⟩ : ∃ m : Nat, e = (m : Int) := ⟨e.toNat, by omega⟩
    have C1 := bnumber TabE m (by omega)
    have C2 := gnumber TabE m (by omega)
    have C3 := qsame TabE (bern m) (bern m) ((bern_sz (by omega)).mono (by omega)) ((bern_sz (by omega)).mono (by omega))
    rw [decide_eq_true rfl] at C3
    repeat (first | refine js ?_ | refine jb ?_)
    refine jr ?_
    refine jm rfl ?_
    refine jS (ru_call C1 ⟨rfl, trivial⟩) ?_
    refine jm rfl ?_
    refine jS (rt_extract rfl rfl) ?_
    refine jS (rt_extract rfl rfl) ?_
    refine jT (ru_alloc rfl rfl rfl) ?_
    refine jO (ru_storeR rfl rfl rfl rfl rfl rfl) ?_
    refine ja rfl ?_
    refine RG.nil (by kernel_rfl) ?_
    repeat (first | refine js ?_ | refine jb ?_)
    refine jr ?_
    refine jm rfl ?_
    refine jS (ru_call C2 ⟨rfl, trivial⟩) ?_
    refine jm rfl ?_
    refine jS (rt_extract rfl rfl) ?_
    refine jS (rt_extract rfl rfl) ?_
    refine jT (ru_alloc rfl rfl rfl) ?_
    refine jO (ru_storeR rfl rfl rfl rfl rfl rfl) ?_
    refine ja rfl ?_
    refine RG.nil (by kernel_rfl) ?_
    repeat (first | refine js ?_ | refine jb ?_)
    refine jr ?_
    refine jm rfl ?_
    refine jm rfl ?_
    refine jS (rt_bin_to rfl rfl (fun w => run_eqi w _ _ _ _ _ _) (vbool (hb _))) ?_
    refine jm rfl ?_
    first | refine RG.S0 (LT.run rfl rfl rfl (ru_loadR rfl rfl rfl rfl)) ?_ | refine RG.S0 (LT.skip rfl rfl rfl) ?_
    first | refine RG.S0 (LT.run rfl rfl rfl (ru_loadR rfl rfl rfl rfl)) ?_ | refine RG.S0 (LT.skip rfl rfl rfl) ?_
    first | refine RG.S0 (LT.run rfl rfl rfl (ru_call C3 ⟨rfl, rfl, trivial⟩)) ?_ | refine RG.S0 (LT.skip rfl rfl rfl) ?_
    first | refine jS (rt_pick_true rfl rfl) ?_ | refine jS (rt_pick_false rfl rfl) ?_
    refine jm rfl ?_
    first | refine RG.S0 (LT.run rfl rfl rfl (ru_call lawake trivial)) ?_ | refine RG.S0 (LT.skip rfl rfl rfl) ?_
    first | refine jS (rt_pick_true rfl rfl) ?_ | refine jS (rt_pick_false rfl rfl) ?_
    refine ja rfl ?_
    refine RG.nil (by kernel_rfl) ?_
    repeat (first | refine js ?_ | refine jb ?_)
    refine WpD.ret ?_
    exact ret1 rfl (.tmp rfl) (PLe.refl _)
  · have C1 := bnumber_out TabE e hk
    have C2 := gnumber_out TabE e hk
    have C3 := qsame0 TabE
    repeat (first | refine js ?_ | refine jb ?_)
    refine jr ?_
    refine jm rfl ?_
    refine jS (ru_call C1 ⟨rfl, trivial⟩) ?_
    refine jm rfl ?_
    refine jS (rt_extract rfl rfl) ?_
    refine jS (rt_extract rfl rfl) ?_
    refine jT (ru_alloc rfl rfl rfl) ?_
    refine jO (ru_storeR rfl rfl rfl rfl rfl rfl) ?_
    refine ja rfl ?_
    refine RG.nil (by kernel_rfl) ?_
    repeat (first | refine js ?_ | refine jb ?_)
    refine jr ?_
    refine jm rfl ?_
    refine jS (ru_call C2 ⟨rfl, trivial⟩) ?_
    refine jm rfl ?_
    refine jS (rt_extract rfl rfl) ?_
    refine jS (rt_extract rfl rfl) ?_
    refine jT (ru_alloc rfl rfl rfl) ?_
    refine jO (ru_storeR rfl rfl rfl rfl rfl rfl) ?_
    refine ja rfl ?_
    refine RG.nil (by kernel_rfl) ?_
    repeat (first | refine js ?_ | refine jb ?_)
    refine jr ?_
    refine jm rfl ?_
    refine jm rfl ?_
    refine jS (rt_bin_to rfl rfl (fun w => run_eqi w _ _ _ _ _ _) (vbool (hb _))) ?_
    refine jm rfl ?_
    first | refine RG.S0 (LT.run rfl rfl rfl (ru_loadR rfl rfl rfl rfl)) ?_ | refine RG.S0 (LT.skip rfl rfl rfl) ?_
    first | refine RG.S0 (LT.run rfl rfl rfl (ru_loadR rfl rfl rfl rfl)) ?_ | refine RG.S0 (LT.skip rfl rfl rfl) ?_
    first | refine RG.S0 (LT.run rfl rfl rfl (ru_call C3 ⟨rfl, rfl, trivial⟩)) ?_ | refine RG.S0 (LT.skip rfl rfl rfl) ?_
    first | refine jS (rt_pick_true rfl rfl) ?_ | refine jS (rt_pick_false rfl rfl) ?_
    refine jm rfl ?_
    first | refine RG.S0 (LT.run rfl rfl rfl (ru_call lawake trivial)) ?_ | refine RG.S0 (LT.skip rfl rfl rfl) ?_
    first | refine jS (rt_pick_true rfl rfl) ?_ | refine jS (rt_pick_false rfl rfl) ?_
    refine ja rfl ?_
    refine RG.nil (by kernel_rfl) ?_
    repeat (first | refine js ?_ | refine jb ?_)
    refine WpD.ret ?_
    exact ret1 rfl (.tmp rfl) (PLe.refl _)
/-- The product of the primes p for which p - 1 divides n. -/
def dpr (n : Nat) : Nat → Nat
  | 0 => 1
  | i + 1 => if isP (i + 2) && n % (i + 1) == 0 then dpr n i * (i + 2) else dpr n i
theorem dpr_ok : ∀ m : Fin 10, ((bern (2 + 2 * m.1)).den : Nat) = dpr (2 + 2 * m.1) (2 + 2 * m.1) := by decide +kernel
theorem dpr_le : ∀ m : Fin 10, ∀ i : Fin 22, dpr (2 + 2 * m.1) i.1 ≤ 1000000000 := by decide +kernel
theorem ldenom (k : Int) (h1 : 0 ≤ k) (h2 : k ≤ 255) : Fn Tryd.prog TabE 4 [ex (.int .u8 k)] (ex (.bool true)) := by
  obtain ⟨m, hm⟩ : ∃ m : Nat, k % 10 = (m : Int) := ⟨(k % 10).toNat, by omega⟩
  have hm10 : m < 10 := by omega
  have e1 : IntKind.i64.wrap k = k := w64 (by omega) (by omega)
  have e2 : k.tmod 10 = (m : Int) := by rw [Int.tmod_eq_emod_of_nonneg h1]; exact hm
  have e3 : IntKind.i64.wrap (2 * (m : Int)) = 2 * (m : Int) := w64 (by omega) (by omega)
  have e4 : IntKind.i64.wrap (2 + 2 * (m : Int)) = ((2 + 2 * m : Nat) : Int) := by rw [w64 (by omega) (by omega)]; omega
  generalize hn : 2 + 2 * m = n at *
  have hnl : n ≤ 20 := by omega
  have C1 := bnumber TabE n hnl
  have hdp : ∀ i, i ≤ 21 → dpr n i ≤ 1000000000 := fun i hi => by have := dpr_le ⟨m, hm10⟩ ⟨i, by omega⟩; dsimp only at this; rwa [hn] at this
  have hok : (bern n).den = dpr n n := by have := dpr_ok ⟨m, hm10⟩; dsimp only at this; rwa [hn] at this
  refine fn_of_body Tryd.func4 rfl Tryd.ntmps4 rfl ?_
  intro w0 h0
  repeat (first | refine js ?_ | refine jb ?_)
  refine jr ?_
  refine ja rfl ?_
  refine RG.nil (by kernel_rfl) ?_
  repeat (first | refine js ?_ | refine jb ?_)
  refine jr ?_
  refine jm rfl ?_
  refine jS (rt_conv_to rfl (fun w => run_convi w CInt.ok CInt.ok _ _) (vint e1)) ?_
  refine jS (rt_bin_to rfl rfl (fun w => run_remi w _ _ _ _ _ _ (by first | decide | omega | assumption)) (vint e2)) ?_
  refine jS (rt_bin_to rfl rfl (fun w => run_muli w _ _ _ _ _ _) (vint e3)) ?_
  refine jS (rt_bin_to rfl rfl (fun w => run_addi w _ _ _ _ _ _) (vint e4)) ?_
  refine ja rfl ?_
  refine RG.nil (by kernel_rfl) ?_
  repeat (first | refine js ?_ | refine jb ?_)
  refine jr ?_
  refine jm rfl ?_
  refine jS (ru_call C1 ⟨rfl, trivial⟩) ?_
  refine jm rfl ?_
  refine jS (rt_extract rfl rfl) ?_
  refine jS (rt_extract rfl rfl) ?_
  refine jT (ru_alloc rfl rfl rfl) ?_
  refine jO (ru_storeR rfl rfl rfl rfl rfl rfl) ?_
  refine ja rfl ?_
  refine RG.nil (by kernel_rfl) ?_
  repeat (first | refine js ?_ | refine jb ?_)
  refine jr ?_
  refine ja rfl ?_
  refine RG.nil (by kernel_rfl) ?_
  repeat (first | refine js ?_ | refine jb ?_)
  refine jr ?_
  refine ja rfl ?_
  refine RG.nil (by kernel_rfl) ?_
  repeat (first | refine js ?_ | refine jb ?_)
  refine WpD.loop (α := {i : Nat // i ≤ n}) (fun i => ⟨[(3, .one (ex (.int .i64 (n : Int)))), (4, .ptr 4 0), (5, .one (ex (.int .i64 0))), (6, .one (ex (.int .i64 ((dpr n i.1 : Nat) : Int)))), (7, .one (ex (.int .i64 ((i.1 + 2 : Nat) : Int))))], [(4, qCells (bern n))]⟩) (fun i => n - i.1) ⟨0, Nat.zero_le _⟩ ?_ ?_
  · refine Sub.mk ?_ ?_
    · repeat (first | exact trivial | refine jv rfl ?_ | refine jw rfl (js0 rfl) ?_ | refine jw rfl ⟨js0 rfl, js0 rfl⟩ ?_ | refine jx rfl ⟨js0 rfl, js0 rfl⟩ ?_ | refine jw rfl (clo_live (js0 rfl) (js0 rfl)) ?_ | refine ⟨⟨_, rfl, PLe.refl _⟩, trivial, ?_⟩)
    · repeat (first | exact trivial | refine jz ?_ | refine jy rfl ?_)
  rintro ⟨i, hi⟩
  dsimp only at hi ⊢
  have e5 : IntKind.i64.wrap ((n : Int) + 1) = (n : Int) + 1 := w64 (by omega) (by omega)
  by_cases hlt : i < n
  · have C2 := gris TabE ((i + 2 : Nat) : Int)
    rw [show ((i + 2 : Nat) : Int).toNat = i + 2 from rfl] at C2
    have e6 : IntKind.i64.wrap (((i + 2 : Nat) : Int) + 1) = ((i + 1 + 2 : Nat) : Int) := by rw [w64 (by omega) (by omega)]; omega
    have e7 : IntKind.i64.wrap (((i + 2 : Nat) : Int) - 1) = ((i + 1 : Nat) : Int) := by rw [w64 (by omega) (by omega)]; omega
    have e8 : ((n : Nat) : Int).tmod ((i + 1 : Nat) : Int) = ((n % (i + 1) : Nat) : Int) := (Int.ofNat_tmod _ _).symm
    have hne : ((i + 1 : Nat) : Int) ≠ 0 := by omega
    have hbd := hdp (i + 1) (by omega)
    cases hp : isP (i + 2) with
    | false =>
      rw [hp] at C2
      have ed : dpr n (i + 1) = dpr n i := by rw [dpr, hp]; rfl
      repeat (first | refine js ?_ | refine jb ?_)
      refine jr ?_
      refine jm rfl ?_
      refine jm rfl ?_
      refine jS (rt_bin_to rfl rfl (fun w => run_addi w _ _ _ _ _ _) (vint e5)) ?_
      refine jS (rt_bin_to rfl rfl (fun w => run_lei w _ _ _ _ _ _) (vbool (decide_eq_true (by omega)))) ?_
      refine RG.nil (by kernel_rfl) ?_
      repeat (first | refine js ?_ | refine jb ?_)
      refine WpD.condT rfl ?_
      repeat (first | refine js ?_ | refine jb ?_)
      refine WpD.skip ?_
      repeat (first | refine js ?_ | refine jb ?_)
      refine jr ?_
      refine jm rfl ?_
      refine jS (ru_call C2 ⟨rfl, trivial⟩) ?_
      refine jm rfl ?_
      first | refine RG.S0 (LT.run rfl rfl rfl (rt_move rfl)) ?_ | refine RG.S0 (LT.skip rfl rfl rfl) ?_
      first | refine RG.S0 (LT.run rfl rfl rfl (rt_move rfl)) ?_ | refine RG.S0 (LT.skip rfl rfl rfl) ?_
      first | refine RG.S0 (LT.run rfl rfl rfl (rt_bin rfl rfl (fun w => run_subi w _ _ _ _ _ _))) ?_ | refine RG.S0 (LT.skip rfl rfl rfl) ?_
      first | refine RG.S0 (LT.run rfl rfl rfl (rt_bin rfl rfl (fun w => run_remi w _ _ _ _ _ _ (by first | decide | omega | assumption)))) ?_ | refine RG.S0 (LT.skip rfl rfl rfl) ?_
      first | refine RG.S0 (LT.run rfl rfl rfl (rt_bin rfl rfl (fun w => run_eqi w _ _ _ _ _ _))) ?_ | refine RG.S0 (LT.skip rfl rfl rfl) ?_
      first | refine jS (rt_pick_true rfl rfl) ?_ | refine jS (rt_pick_false rfl rfl) ?_
      refine RG.nil (by kernel_rfl) ?_
      repeat (first | refine js ?_ | refine jb ?_)
      refine WpD.condF rfl ?_
      repeat (first | refine js ?_ | refine jb ?_)
      refine WpD.skip ?_
      repeat (first | refine js ?_ | refine jb ?_)
      refine jr ?_
      refine jm rfl ?_
      refine jS (rt_bin_to rfl rfl (fun w => run_addi w _ _ _ _ _ _) (vint e6)) ?_
      refine ja rfl ?_
      refine RG.nil (by kernel_rfl) ?_
      refine ⟨⟨i + 1, by omega⟩, ?_, by dsimp only; omega⟩
      dsimp only
      rw [ed]
      refine Sub.mk ?_ ?_
      · repeat (first | exact trivial | refine jv rfl ?_ | refine jw rfl (js0 rfl) ?_ | refine jw rfl ⟨js0 rfl, js0 rfl⟩ ?_ | refine jx rfl ⟨js0 rfl, js0 rfl⟩ ?_ | refine jw rfl (clo_live (js0 rfl) (js0 rfl)) ?_ | refine ⟨⟨_, rfl, PLe.refl _⟩, trivial, ?_⟩)
      · repeat (first | exact trivial | refine jz ?_ | refine jy rfl ?_)
    | true =>
      rw [hp] at C2
      by_cases hd : n % (i + 1) = 0
      · have ed : dpr n (i + 1) = dpr n i * (i + 2) := by rw [dpr, hp, hd]; rfl
        have e9 : IntKind.i64.wrap (((dpr n i : Nat) : Int) * ((i + 2 : Nat) : Int)) = ((dpr n (i + 1) : Nat) : Int) := by rw [← Int.natCast_mul, ← ed]; exact w64 (by omega) (by omega)
        have bq : (((n % (i + 1) : Nat) : Int) == 0) = true := by rw [hd]; rfl
        repeat (first | refine js ?_ | refine jb ?_)
        refine jr ?_
        refine jm rfl ?_
        refine jm rfl ?_
        refine jS (rt_bin_to rfl rfl (fun w => run_addi w _ _ _ _ _ _) (vint e5)) ?_
        refine jS (rt_bin_to rfl rfl (fun w => run_lei w _ _ _ _ _ _) (vbool (decide_eq_true (by omega)))) ?_
        refine RG.nil (by kernel_rfl) ?_
        repeat (first | refine js ?_ | refine jb ?_)
        refine WpD.condT rfl ?_
        repeat (first | refine js ?_ | refine jb ?_)
        refine WpD.skip ?_
        repeat (first | refine js ?_ | refine jb ?_)
        refine jr ?_
        refine jm rfl ?_
        refine jS (ru_call C2 ⟨rfl, trivial⟩) ?_
        refine jm rfl ?_
        first | refine RG.S0 (LT.run rfl rfl rfl (rt_move rfl)) ?_ | refine RG.S0 (LT.skip rfl rfl rfl) ?_
        first | refine RG.S0 (LT.run rfl rfl rfl (rt_move rfl)) ?_ | refine RG.S0 (LT.skip rfl rfl rfl) ?_
        first | refine RG.S0 (LT.run rfl rfl rfl (rt_bin_to rfl rfl (fun w => run_subi w _ _ _ _ _ _) (vint e7))) ?_ | refine RG.S0 (LT.skip rfl rfl rfl) ?_
        first | refine RG.S0 (LT.run rfl rfl rfl (rt_bin_to rfl rfl (fun w => run_remi w _ _ _ _ _ _ (by first | decide | omega | assumption)) (vint e8))) ?_ | refine RG.S0 (LT.skip rfl rfl rfl) ?_
        first | refine RG.S0 (LT.run rfl rfl rfl (rt_bin_to rfl rfl (fun w => run_eqi w _ _ _ _ _ _) (vbool bq))) ?_ | refine RG.S0 (LT.skip rfl rfl rfl) ?_
        first | refine jS (rt_pick_true rfl rfl) ?_ | refine jS (rt_pick_false rfl rfl) ?_
        refine RG.nil (by kernel_rfl) ?_
        repeat (first | refine js ?_ | refine jb ?_)
        refine WpD.condT rfl ?_
        repeat (first | refine js ?_ | refine jb ?_)
        refine jr ?_
        refine jm rfl ?_
        refine jm rfl ?_
        refine jS (rt_bin_to rfl rfl (fun w => run_muli w _ _ _ _ _ _) (vint e9)) ?_
        refine ja rfl ?_
        refine RG.nil (by kernel_rfl) ?_
        repeat (first | refine js ?_ | refine jb ?_)
        refine jr ?_
        refine jm rfl ?_
        refine jS (rt_bin_to rfl rfl (fun w => run_addi w _ _ _ _ _ _) (vint e6)) ?_
        refine ja rfl ?_
        refine RG.nil (by kernel_rfl) ?_
        refine ⟨⟨i + 1, by omega⟩, ?_, by dsimp only; omega⟩
        refine Sub.mk ?_ ?_
        · repeat (first | exact trivial | refine jv rfl ?_ | refine jw rfl (js0 rfl) ?_ | refine jw rfl ⟨js0 rfl, js0 rfl⟩ ?_ | refine jx rfl ⟨js0 rfl, js0 rfl⟩ ?_ | refine jw rfl (clo_live (js0 rfl) (js0 rfl)) ?_ | refine ⟨⟨_, rfl, PLe.refl _⟩, trivial, ?_⟩)
        · repeat (first | exact trivial | refine jz ?_ | refine jy rfl ?_)
      · have ed : dpr n (i + 1) = dpr n i := by rw [dpr, hp, Bool.true_and, if_neg (by simpa using hd)]
        have bq : (((n % (i + 1) : Nat) : Int) == 0) = false := by rw [beq_eq_false_iff_ne]; omega
        repeat (first | refine js ?_ | refine jb ?_)
        refine jr ?_
        refine jm rfl ?_
        refine jm rfl ?_
        refine jS (rt_bin_to rfl rfl (fun w => run_addi w _ _ _ _ _ _) (vint e5)) ?_
        refine jS (rt_bin_to rfl rfl (fun w => run_lei w _ _ _ _ _ _) (vbool (decide_eq_true (by omega)))) ?_
        refine RG.nil (by kernel_rfl) ?_
        repeat (first | refine js ?_ | refine jb ?_)
        refine WpD.condT rfl ?_
        repeat (first | refine js ?_ | refine jb ?_)
        refine WpD.skip ?_
        repeat (first | refine js ?_ | refine jb ?_)
        refine jr ?_
        refine jm rfl ?_
        refine jS (ru_call C2 ⟨rfl, trivial⟩) ?_
        refine jm rfl ?_
        first | refine RG.S0 (LT.run rfl rfl rfl (rt_move rfl)) ?_ | refine RG.S0 (LT.skip rfl rfl rfl) ?_
        first | refine RG.S0 (LT.run rfl rfl rfl (rt_move rfl)) ?_ | refine RG.S0 (LT.skip rfl rfl rfl) ?_
        first | refine RG.S0 (LT.run rfl rfl rfl (rt_bin_to rfl rfl (fun w => run_subi w _ _ _ _ _ _) (vint e7))) ?_ | refine RG.S0 (LT.skip rfl rfl rfl) ?_
        first | refine RG.S0 (LT.run rfl rfl rfl (rt_bin_to rfl rfl (fun w => run_remi w _ _ _ _ _ _ (by first | decide | omega | assumption)) (vint e8))) ?_ | refine RG.S0 (LT.skip rfl rfl rfl) ?_
        first | refine RG.S0 (LT.run rfl rfl rfl (rt_bin_to rfl rfl (fun w => run_eqi w _ _ _ _ _ _) (vbool bq))) ?_ | refine RG.S0 (LT.skip rfl rfl rfl) ?_
        first | refine jS (rt_pick_true rfl rfl) ?_ | refine jS (rt_pick_false rfl rfl) ?_
        refine RG.nil (by kernel_rfl) ?_
        repeat (first | refine js ?_ | refine jb ?_)
        refine WpD.condF rfl ?_
        repeat (first | refine js ?_ | refine jb ?_)
        refine WpD.skip ?_
        repeat (first | refine js ?_ | refine jb ?_)
        refine jr ?_
        refine jm rfl ?_
        refine jS (rt_bin_to rfl rfl (fun w => run_addi w _ _ _ _ _ _) (vint e6)) ?_
        refine ja rfl ?_
        refine RG.nil (by kernel_rfl) ?_
        refine ⟨⟨i + 1, by omega⟩, ?_, by dsimp only; omega⟩
        dsimp only
        rw [ed]
        refine Sub.mk ?_ ?_
        · repeat (first | exact trivial | refine jv rfl ?_ | refine jw rfl (js0 rfl) ?_ | refine jw rfl ⟨js0 rfl, js0 rfl⟩ ?_ | refine jx rfl ⟨js0 rfl, js0 rfl⟩ ?_ | refine jw rfl (clo_live (js0 rfl) (js0 rfl)) ?_ | refine ⟨⟨_, rfl, PLe.refl _⟩, trivial, ?_⟩)
        · repeat (first | exact trivial | refine jz ?_ | refine jy rfl ?_)
  · have : i = n := by omega
    subst this
    have hbd := hdp i (by omega)
    have C3 := fsmall TabE ((dpr i i : Nat) : Int) (by omega) (by omega)
    have C4 := ccmp TabE (bern i).den ((dpr i i : Nat) : Int) (Nat.le_trans (bern_sz (by omega)).2 (by omega)) (Nat.le_trans (zl_small (by omega) (by omega)) (show 2 ≤ 1073741824 by omega))
    rw [show cmpZ (bern i).den ((dpr i i : Nat) : Int) = 0 by rw [hok]; unfold cmpZ; simp] at C4
    repeat (first | refine js ?_ | refine jb ?_)
    refine jr ?_
    refine jm rfl ?_
    refine jm rfl ?_
    refine jS (rt_bin_to rfl rfl (fun w => run_addi w _ _ _ _ _ _) (vint e5)) ?_
    refine jS (rt_bin_to rfl rfl (fun w => run_lei w _ _ _ _ _ _) (vbool (decide_eq_false (by omega)))) ?_
    refine RG.nil (by kernel_rfl) ?_
    repeat (first | refine js ?_ | refine jb ?_)
    refine WpD.condF rfl ?_
    repeat (first | refine js ?_ | refine jb ?_)
    refine WpD.exit ?_
    repeat (first | refine js ?_ | refine jb ?_)
    refine jr ?_
    refine jm rfl ?_
    refine jS (rt_bin rfl rfl (fun w => run_eqi w _ _ _ _ _ _)) ?_
    refine jm rfl ?_
    first | refine RG.S0 (LT.run rfl rfl rfl (ru_fieldAddr rfl rfl)) ?_ | refine RG.S0 (LT.skip rfl rfl rfl) ?_
    first | refine RG.S0 (LT.run rfl rfl rfl (ru_loadR rfl rfl rfl rfl)) ?_ | refine RG.S0 (LT.skip rfl rfl rfl) ?_
    first | refine RG.S0 (LT.run rfl rfl rfl (rt_move rfl)) ?_ | refine RG.S0 (LT.skip rfl rfl rfl) ?_
    first | refine RG.S0 (LT.run rfl rfl rfl (ru_call C3 ⟨rfl, trivial⟩)) ?_ | refine RG.S0 (LT.skip rfl rfl rfl) ?_
    first | refine RG.S0 (LT.run rfl rfl rfl (ru_call C4 ⟨rfl, rfl, trivial⟩)) ?_ | refine RG.S0 (LT.skip rfl rfl rfl) ?_
    first | refine RG.S0 (LT.run rfl rfl rfl (rt_bin rfl rfl (fun w => run_eqi w _ _ _ _ _ _))) ?_ | refine RG.S0 (LT.skip rfl rfl rfl) ?_
    first | refine jS (rt_pick_true rfl rfl) ?_ | refine jS (rt_pick_false rfl rfl) ?_
    refine jm rfl ?_
    first | refine RG.S0 (LT.run rfl rfl rfl (ru_call lawake trivial)) ?_ | refine RG.S0 (LT.skip rfl rfl rfl) ?_
    first | refine jS (rt_pick_true rfl rfl) ?_ | refine jS (rt_pick_false rfl rfl) ?_
    refine ja rfl ?_
    refine RG.nil (by kernel_rfl) ?_
    repeat (first | refine js ?_ | refine jb ?_)
    refine WpD.ret ?_
    exact ret1 rfl (.tmp rfl) (PLe.refl _)
theorem law_BernoulliNumber (k : Int) (sm : Bool) (w : World) (ht : Tab w) :
    Calls Tryd.prog 3 #[.int .i64 k, .bool sm] w fun e w' => e = .returned (.bool true) ∧ Below w.heap.size w w' :=
  fn_true (lnumber k sm) w ht ⟨rfl, rfl, trivial⟩
theorem law_BernoulliDenominator (k : Int) (w : World) (wk : (Lit.int .u8 k).wf = true) (ht : Tab w) :
    Calls Tryd.prog 4 #[.int .u8 k] w fun e w' => e = .returned (.bool true) ∧ Below w.heap.size w w' := by
  obtain ⟨k1, k2⟩ := bounds_u8 wk
  exact fn_true (ldenom k (by omega) (by omega)) w ht ⟨rfl, trivial⟩
end Go.Proofs.YtgbiccenhionaaaDoor

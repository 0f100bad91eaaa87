/- Bernoulli numbers: plain, and the program's and the reference's lists. -/
import Derived.Test.YtgbiccenhionaaaGreatDoorSa
set_option maxRecDepth 3000
namespace Go.Proofs.YtgbiccenhionaaaGreatDoor
open Go.RowKit Limb
instance cbody15 : CBody Tryz.prog 15 := ⟨⟨_, Tryz.func15, rfl, by rfl⟩⟩
instance cbody18 : CBody Tryz.prog 18 := ⟨⟨_, Tryz.func18, rfl, by rfl⟩⟩
instance cbody17 : CBody Tryz.prog 17 := ⟨⟨_, Tryz.func17, rfl, by rfl⟩⟩
instance cbody31 : CBody Tryz.prog 31 := ⟨⟨_, Tryz.func31, rfl, by rfl⟩⟩
instance cbody4 : CBody Tryz.prog 4 := ⟨⟨_, Tryz.func4, rfl, by rfl⟩⟩
/-! Contracts for canonical numbers. -/
section
variable (En : Ev)
theorem kradd (a b : Rat) (ha : Sz 1073741824 a) (hb : Sz 1073741824 b) : Fn Tryz.prog En 19 [qC a, qC b] (qC (a + b)) := by
  have := radd En (RQ.of a) (RQ.of b) (RQ.of_ok ha) (RQ.of_ok hb)
  rwa [RQ.of_v, RQ.of_v] at this
theorem krsub (a b : Rat) (ha : Sz 1073741824 a) (hb : Sz 1073741824 b) : Fn Tryz.prog En 10 [qC a, qC b] (qC (a - b)) := by
  have := rsub En (RQ.of a) (RQ.of b) (RQ.of_ok ha) (RQ.of_ok hb)
  rwa [RQ.of_v, RQ.of_v] at this
theorem krmul (a b : Rat) (ha : Sz 1073741824 a) (hb : Sz 1073741824 b) : Fn Tryz.prog En 16 [qC a, qC b] (qC (a * b)) := by
  have := rmul En (RQ.of a) (RQ.of b) (RQ.of_ok ha) (RQ.of_ok hb)
  rwa [RQ.of_v, RQ.of_v] at this
theorem krquo (a b : Rat) (ha : Sz 1073741824 a) (hb : Sz 1073741824 b) (h : b ≠ 0) : Fn Tryz.prog En 42 [qC a, qC b] (tupP [qC (a / b), ex (.bool true)]) := by
  have := rquo En (RQ.of a) (RQ.of b) (RQ.of_ok ha) (RQ.of_ok hb) (by rw [RQ.of_v]; exact h)
  rwa [RQ.of_v, RQ.of_v] at this
theorem krneg (a : Rat) (ha : Sz 1073741824 a) : Fn Tryz.prog En 29 [qC a] (qC (-a)) := by
  have := rneg En (RQ.of a) (RQ.of_ok ha)
  rwa [RQ.of_v] at this
theorem krpow (a : Rat) (n : Nat) (ha : Sz 1073741824 a) (hn : n ≤ 64) : Fn Tryz.prog En 57 [qC a, ex (.int .i64 (n : Int))] (tupP [qC (a ^ n), ex (.bool true)]) := by
  have := rpow En (RQ.of a) n (RQ.of_ok ha) hn
  rwa [RQ.of_v] at this
theorem krpow_neg (a : Rat) (n : Nat) (ha : Sz 1073741824 a) (hn : n ≤ 64) (hn0 : 0 < n) (h : a ≠ 0) : Fn Tryz.prog En 57 [qC a, ex (.int .i64 (-(n : Int)))] (tupP [qC (a⁻¹ ^ n), ex (.bool true)]) := by
  have := rpow_neg En (RQ.of a) n (RQ.of_ok ha) hn hn0 (by rw [RQ.of_v]; exact h)
  rwa [RQ.of_v] at this
theorem kqadd (a b : Rat) (ha : Sz 134217728 a) (hb : Sz 134217728 b) : Fn Tryz.prog En 6 [qC a, qC b] (qC (a + b)) := by
  have := qadd En (RQ.of a) (RQ.of b) (RQ.of_okR ha) (RQ.of_okR hb)
  rwa [RQ.of_v, RQ.of_v] at this
theorem kqsub (a b : Rat) (ha : Sz 134217728 a) (hb : Sz 134217728 b) : Fn Tryz.prog En 27 [qC a, qC b] (qC (a - b)) := by
  have := qsub En (RQ.of a) (RQ.of b) (RQ.of_okR ha) (RQ.of_okR hb)
  rwa [RQ.of_v, RQ.of_v] at this
theorem kqmul (a b : Rat) (ha : Sz 134217728 a) (hb : Sz 134217728 b) : Fn Tryz.prog En 11 [qC a, qC b] (qC (a * b)) := by
  have := qmul En (RQ.of a) (RQ.of b) (RQ.of_okR ha) (RQ.of_okR hb)
  rwa [RQ.of_v, RQ.of_v] at this
theorem kqquo (a b : Rat) (ha : Sz 134217728 a) (hb : Sz 134217728 b) (h : b ≠ 0) : Fn Tryz.prog En 24 [qC a, qC b] (tupP [qC (a / b), ex (.bool true)]) := by
  have := qquo En (RQ.of a) (RQ.of b) (RQ.of_okR ha) (RQ.of_okR hb) (by rw [RQ.of_v]; exact h)
  rwa [RQ.of_v, RQ.of_v] at this
theorem kqneg (a : Rat) (ha : Sz 134217728 a) : Fn Tryz.prog En 49 [qC a] (qC (-a)) := by
  have := qneg En (RQ.of a) (RQ.of_okR ha)
  rwa [RQ.of_v] at this
theorem kqcmp (a b : Rat) (ha : Sz 67108860 a) (hb : Sz 67108860 b) : Fn Tryz.prog En 9 [qC a, qC b] (ex (.int .i64 (sg3 (a - b).num))) := by
  have hs : Sz 134217728 (a - b) := by rw [Rat.sub_eq_add_neg]; exact (szq_add ha (szq_neg hb)).mono (by omega)
  have := qcmp En (RQ.of a) (RQ.of b) (RQ.of_okR (ha.mono (by omega))) (RQ.of_okR (hb.mono (by omega))) (by rw [RQ.of_v, RQ.of_v]; exact hs)
  rwa [RQ.of_v, RQ.of_v] at this
end
/-- Binomial coefficients, as they are computed. -/
def bin (n : Nat) : Nat → Nat
  | 0 => 1
  | i + 1 => bin n i * (n - i) / (i + 1)
theorem bin_le : ∀ n : Fin 23, ∀ i : Fin 23, bin n.1 i.1 ≤ 1000000 := by decide +kernel
/-- The Bernoulli numbers. -/
def bern : Nat → Rat
  | 0 => 1
  | 1 => mkRat (-1) 2
  | 2 => mkRat 1 6
  | 4 => mkRat (-1) 30
  | 6 => mkRat 1 42
  | 8 => mkRat (-1) 30
  | 10 => mkRat 5 66
  | 12 => mkRat (-691) 2730
  | 14 => mkRat 7 6
  | 16 => mkRat (-3617) 510
  | 18 => mkRat 43867 798
  | 20 => mkRat (-174611) 330
  | _ => 0
/-- The sums that lead to them. -/
def psum (n : Nat) : Nat → Rat
  | 0 => 0
  | i + 1 => psum n i + (bin (n + 1) i : Int) * bern i
theorem bern_step0 : ∀ n : Fin 20, psum (n.1 + 1) (n.1 + 1) / ((-((n.1 : Int) + 2) : Int) : Rat) = bern (n.1 + 1) := by decide +kernel
theorem psum_sz0 : ∀ n : Fin 21, ∀ i : Fin 22, (psum n.1 i.1).num.natAbs < 18446744073709551616 ∧ (psum n.1 i.1).den < 18446744073709551616 := by decide +kernel
theorem bern_sz0 : ∀ i : Fin 22, (bern i.1).num.natAbs < 18446744073709551616 ∧ (bern i.1).den < 18446744073709551616 := by decide +kernel
theorem sz_two {r : Rat} (h : r.num.natAbs < 18446744073709551616 ∧ r.den < 18446744073709551616) : Sz 2 r := ⟨zl_small (by omega) (by omega), zl_small (by omega) (by omega)⟩
theorem psum_sz {n i : Nat} (hn : n ≤ 20) (hi : i ≤ 21) : Sz 2 (psum n i) := sz_two (psum_sz0 ⟨n, by omega⟩ ⟨i, by omega⟩)
theorem bern_sz {i : Nat} (hi : i ≤ 21) : Sz 2 (bern i) := sz_two (bern_sz0 ⟨i, by omega⟩)
theorem sz_z {z : Int} (h1 : -9223372036854775808 ≤ z) (h2 : z ≤ 9223372036854775807) : Sz 2 (z : Rat) := szq_int (zl_small (by omega) (by omega)) (by omega)
theorem bern_step {n : Nat} (h1 : 1 ≤ n) (h2 : n ≤ 20) : psum n n / ((-((n : Int) + 1) : Int) : Rat) = bern n := by
  have := bern_step0 ⟨n - 1, by omega⟩
  simp only at this
  rw [show n - 1 + 1 = n by omega] at this
  rw [← this]; congr 3; omega
/-- Rows of cells. -/
def rows (f : Nat → List Pd) (n : Nat) : List Pd := (List.range n).flatMap f
theorem rows_succ (f : Nat → List Pd) (n : Nat) : rows f (n + 1) = rows f n ++ f n := by unfold rows; rw [List.range_succ, List.flatMap_append]; simp
theorem rows_len {f : Nat → List Pd} {k : Nat} (hf : ∀ i, (f i).length = k) : ∀ n, (rows f n).length = n * k
  | 0 => by simp [rows]
  | n + 1 => by rw [rows_succ, List.length_append, rows_len hf n, hf, Nat.succ_mul]
theorem rows_get {f : Nat → List Pd} {k : Nat} (hf : ∀ i, (f i).length = k) : ∀ {n i : Nat}, i < n → ((rows f n).drop (i * k)).take k = f i
  | 0, i, h => by omega
  | n + 1, i, h => by
    rw [rows_succ]
    by_cases e : i = n
    · subst e
      rw [← rows_len hf i, List.drop_left, ← hf i, List.take_length]
    · have hlt : i < n := by omega
      have hle : i * k + k ≤ n * k := by rw [← Nat.succ_mul]; exact Nat.mul_le_mul_right _ hlt
      rw [List.drop_append_of_le_length (by rw [rows_len hf]; omega), List.take_append_of_le_length (by rw [List.length_drop, rows_len hf]; omega)]
      exact rows_get hf hlt
theorem rows_congr {f g : Nat → List Pd} : ∀ {n : Nat}, (∀ i, i < n → f i = g i) → rows f n = rows g n
  | 0, _ => rfl
  | n + 1, h => by rw [rows_succ, rows_succ, rows_congr fun i hi => h i (by omega), h n (by omega)]
def bcells : Nat → List Pd := fun i => qCells (bern i)
theorem bcells_len (i : Nat) : (bcells i).length = 4 := rfl
section
variable (En : Ev)
theorem bwhole (a : Int) (h1 : -9223372036854775808 ≤ a) (h2 : a ≤ 9223372036854775807) : Fn Tryz.prog En 15 [ex (.int .i64 a)] (qC (a : Rat)) := by
  have C1 := ksmall En a h1 h2
  have C2 := kwhole En a (Nat.le_trans (zl_small (by omega) (by omega)) (by omega))
  refine fn_of_body Tryz.func15 rfl Tryz.ntmps15 rfl ?_
  intro w0 h0
  repeat (first | refine js ?_ | refine jb ?_)
  refine jr ?_
  refine jT (ru_alloc rfl rfl rfl) ?_
  refine RG.nil (by kernel_rfl) ?_
  repeat (first | refine js ?_ | refine jb ?_)
  refine jr ?_
  refine jm rfl ?_
  refine jS (ru_call C1 ⟨rfl, trivial⟩) ?_
  refine jS (ru_call C2 ⟨rfl, trivial⟩) ?_
  refine jO (ru_storeR rfl rfl rfl rfl rfl rfl) ?_
  refine RG.nil (by kernel_rfl) ?_
  repeat (first | refine js ?_ | refine jb ?_)
  refine WpD.ret ?_
  exact ret1 rfl (.cell rfl rfl CRow.ok rfl) (PLe.refl _)
theorem bbinomial (n k : Nat) (hn : n ≤ 21) (hk : k ≤ n) : Fn Tryz.prog En 18 [ex (.int .i64 (n : Int)), ex (.int .i64 (k : Int))] (ex (.int .i64 (bin n k : Int))) := by
  refine fn_of_body Tryz.func18 rfl Tryz.ntmps18 rfl ?_
  intro w0 h0
  repeat (first | refine js ?_ | refine jb ?_)
  refine jr ?_
  refine ja rfl ?_
  refine RG.nil (by kernel_rfl) ?_
  repeat (first | refine js ?_ | refine jb ?_)
  refine jr ?_
  refine ja rfl ?_
  refine RG.nil (by kernel_rfl) ?_
  repeat (first | refine js ?_ | refine jb ?_)
  refine jr ?_
  refine jm rfl ?_
  refine jm rfl ?_
  refine RG.nil (by kernel_rfl) ?_
  repeat (first | refine js ?_ | refine jb ?_)
  refine WpD.loop (α := {i : Nat // i ≤ k}) (fun i => ⟨[(0, .one (ex (.int .i64 (n : Int)))), (5, .one (ex (.int .i64 (bin n i.1 : Int)))), (7, .one (ex (.int .i64 (k : Int)))), (8, .one (ex (.int .i64 (i.1 : Int))))], []⟩) (fun i => k - i.1) ⟨0, Nat.zero_le _⟩ ?_ ?_
  · refine Sub.mk ?_ ?_
    · repeat (first | exact trivial | refine jv rfl ?_ | refine jw rfl (js0 rfl) ?_ | refine jw rfl ⟨js0 rfl, js0 rfl⟩ ?_ | refine jx rfl ⟨js0 rfl, js0 rfl⟩ ?_ | refine jw rfl (clo_live (js0 rfl) (js0 rfl)) ?_ | refine ⟨⟨_, rfl, PLe.refl _⟩, trivial, ?_⟩)
    · repeat (first | exact trivial | refine jz ?_ | refine jy rfl ?_)
  rintro ⟨i, hi⟩
  dsimp only at hi ⊢
  by_cases hlt : i < k
  · have hb := bin_le ⟨n, by omega⟩ ⟨i, by omega⟩
    have hb2 := bin_le ⟨n, by omega⟩ ⟨i + 1, by omega⟩
    dsimp only at hb hb2
    have hm : bin n i * (n - i) ≤ 1000000 * 21 := Nat.mul_le_mul hb (by omega)
    have e1 : IntKind.i64.wrap ((n : Int) - (i : Int)) = ((n - i : Nat) : Int) := by rw [w64 (by omega) (by omega)]; omega
    have e2 : IntKind.i64.wrap ((bin n i : Int) * ((n - i : Nat) : Int)) = ((bin n i * (n - i) : Nat) : Int) := by rw [← Int.natCast_mul]; exact w64 (by omega) (by omega)
    have e3 : IntKind.i64.wrap ((i : Int) + 1) = ((i + 1 : Nat) : Int) := by rw [w64 (by omega) (by omega)]; rfl
    have e4 : IntKind.i64.wrap (((bin n i * (n - i) : Nat) : Int).tdiv ((i + 1 : Nat) : Int)) = ((bin n (i + 1) : Nat) : Int) := by
      rw [show ((bin n i * (n - i) : Nat) : Int).tdiv ((i + 1 : Nat) : Int) = ((bin n i * (n - i) / (i + 1) : Nat) : Int) from (Int.ofNat_tdiv _ _).symm]
      show IntKind.i64.wrap ((bin n (i + 1) : Nat) : Int) = _
      exact w64 (by omega) (by omega)
    repeat (first | refine js ?_ | refine jb ?_)
    refine jr ?_
    refine jS (rt_bin_to rfl rfl (fun w => run_lti w _ _ _ _ _ _) (vbool (decide_eq_true (by first | assumption | omega)))) ?_
    refine RG.nil (by kernel_rfl) ?_
    repeat (first | refine js ?_ | refine jb ?_)
    refine WpD.condT rfl ?_
    repeat (first | refine js ?_ | refine jb ?_)
    refine WpD.skip ?_
    repeat (first | refine js ?_ | refine jb ?_)
    refine jr ?_
    refine jm rfl ?_
    refine ja rfl ?_
    refine RG.nil (by kernel_rfl) ?_
    repeat (first | refine js ?_ | refine jb ?_)
    refine jr ?_
    refine jm rfl ?_
    refine jm rfl ?_
    refine jm rfl ?_
    refine jS (rt_bin_to rfl rfl (fun w => run_subi w _ _ _ _ _ _) (vint e1)) ?_
    refine jS (rt_bin_to rfl rfl (fun w => run_muli w _ _ _ _ _ _) (vint e2)) ?_
    refine jm rfl ?_
    refine jS (rt_bin_to rfl rfl (fun w => run_addi w _ _ _ _ _ _) (vint e3)) ?_
    refine jS (rt_bin_to rfl rfl (fun w => run_quoi w _ _ _ _ _ _ (by first | decide | omega | assumption)) (vint e4)) ?_
    refine ja rfl ?_
    refine RG.nil (by kernel_rfl) ?_
    repeat (first | refine js ?_ | refine jb ?_)
    refine jr ?_
    refine jS (rt_bin_to rfl rfl (fun w => run_addi w _ _ _ _ _ _) (vint e3)) ?_
    refine jm rfl ?_
    refine RG.nil (by kernel_rfl) ?_
    refine ⟨⟨i + 1, by omega⟩, ?_, by dsimp only; omega⟩
    refine Sub.mk ?_ ?_
    · repeat (first | exact trivial | refine jv rfl ?_ | refine jw rfl (js0 rfl) ?_ | refine jw rfl ⟨js0 rfl, js0 rfl⟩ ?_ | refine jx rfl ⟨js0 rfl, js0 rfl⟩ ?_ | refine jw rfl (clo_live (js0 rfl) (js0 rfl)) ?_ | refine ⟨⟨_, rfl, PLe.refl _⟩, trivial, ?_⟩)
    · repeat (first | exact trivial | refine jz ?_ | refine jy rfl ?_)
  · have : i = k := by omega
    subst this
    repeat (first | refine js ?_ | refine jb ?_)
    refine jr ?_
    refine jS (rt_bin_to rfl rfl (fun w => run_lti w _ _ _ _ _ _) (vbool (decide_eq_false (by first | assumption | omega)))) ?_
    refine RG.nil (by kernel_rfl) ?_
    repeat (first | refine js ?_ | refine jb ?_)
    refine WpD.condF rfl ?_
    repeat (first | refine js ?_ | refine jb ?_)
    refine WpD.exit ?_
    repeat (first | refine js ?_ | refine jb ?_)
    refine jr ?_
    refine jm rfl ?_
    refine ja rfl ?_
    refine RG.nil (by kernel_rfl) ?_
    repeat (first | refine js ?_ | refine jb ?_)
    refine WpD.ret ?_
    exact ret1 rfl (.tmp rfl) (PLe.refl _)
set_option maxHeartbeats 1000000 in
theorem bnumbers (k : Nat) (hk : k ≤ 20) : Fn Tryz.prog En 17 [ex (.int .i64 (k : Int))] (slc 4 (rows bcells (k + 1)) (k + 1)) := by
  have W1 := bwhole En 1 (by omega) (by omega)
  have W0 := bwhole En 0 (by omega) (by omega)
  refine fn_of_body Tryz.func17 rfl Tryz.ntmps17 rfl ?_
  intro w0 h0
  repeat (first | refine js ?_ | refine jb ?_)
  refine jr ?_
  refine ja rfl ?_
  refine RG.nil (by kernel_rfl) ?_
  repeat (first | refine js ?_ | refine jb ?_)
  refine jr ?_
  refine jS (ru_call W1 ⟨rfl, trivial⟩) ?_
  refine RG.SW (LT.plain rfl (ru_buildA 511 (ps := [(_, _)]) ⟨rfl, Part.c rfl, trivial⟩ rfl rfl rfl rfl rfl rfl)) rfl ?_
  refine ja rfl ?_
  refine RG.nil (by kernel_rfl) ?_
  repeat (first | refine js ?_ | refine jb ?_)
  refine jr ?_
  refine ja rfl ?_
  refine RG.nil (by kernel_rfl) ?_
  repeat (first | refine js ?_ | refine jb ?_)
  refine WpD.loop (α := {n : Nat // 1 ≤ n ∧ n ≤ k + 1}) (fun n => ⟨[(0, .one (ex (.int .i64 (k : Int)))), (3, .app 503 4 n.1), (4, .one (ex (.int .i64 (n.1 : Int))))], [(503, rows bcells n.1), (753, [])]⟩) (fun n => k + 1 - n.1) ⟨1, by omega, by omega⟩ ?_ ?_
  · refine Sub.ren 503 511 rfl ?_ ?_ rfl
    · repeat (first | exact trivial | refine ⟨.inl ⟨⟨_, rfl, PLe.refl _⟩, trivial, trivial⟩, ?_⟩ | refine ⟨.inr ⟨_, _, rfl, .inl rfl, ⟨Option.some_ne_none _, Option.some_ne_none _⟩⟩, ?_⟩ | refine ⟨.inl ⟨⟨_, rfl, rfl⟩, Option.some_ne_none _, ⟨(by decide), (by decide)⟩⟩, ?_⟩ | refine ⟨.inl ⟨⟨_, rfl, rfl⟩, ⟨Option.some_ne_none _, Option.some_ne_none _⟩, ⟨(by decide), (by decide), (by decide), (by decide)⟩⟩, ?_⟩ | refine ⟨.inl ⟨⟨_, rfl, rfl⟩, clo_live (Option.some_ne_none _) (Option.some_ne_none _), clo_avoid (by decide) (by decide) (by decide) (by decide)⟩, ?_⟩ | refine ⟨.inr ⟨_, _, rfl, .inr ⟨(by omega), rfl⟩, Option.some_ne_none _⟩, ?_⟩)
    · repeat (first | exact trivial | refine ⟨.inr ⟨(by decide), .inr rfl⟩, ?_⟩ | refine ⟨.inl ⟨rfl, _, rfl, PsLe.refl _⟩, ?_⟩ | refine ⟨.inr ⟨(by decide), .inl ⟨(by decide), _, rfl, PsLe.refl _⟩⟩, ?_⟩)
  rintro ⟨n, hn1, hn2⟩
  dsimp only at hn1 hn2 ⊢
  by_cases hle : n ≤ k
  · repeat (first | refine js ?_ | refine jb ?_)
    refine jr ?_
    refine jm rfl ?_
    refine jm rfl ?_
    refine jS (rt_bin_to rfl rfl (fun w => run_lei w _ _ _ _ _ _) (vbool (decide_eq_true (by first | assumption | omega)))) ?_
    refine RG.nil (by kernel_rfl) ?_
    repeat (first | refine js ?_ | refine jb ?_)
    refine WpD.condT rfl ?_
    repeat (first | refine js ?_ | refine jb ?_)
    refine WpD.skip ?_
    repeat (first | refine js ?_ | refine jb ?_)
    refine jr ?_
    refine jS (ru_call W0 ⟨rfl, trivial⟩) ?_
    refine jT (ru_alloc rfl rfl rfl) ?_
    refine jO (ru_storeR rfl rfl rfl rfl rfl rfl) ?_
    refine RG.nil (by kernel_rfl) ?_
    repeat (first | refine js ?_ | refine jb ?_)
    refine jr ?_
    refine jm rfl ?_
    refine jS (ru_lenA rfl CSlice.ok) ?_
    refine jm rfl ?_
    refine RG.nil (by kernel_rfl) ?_
    repeat (first | refine js ?_ | refine jb ?_)
    refine WpD.loop (α := {i : Nat // i ≤ n}) (fun i => ⟨[(0, .one (ex (.int .i64 (k : Int)))), (3, .app 503 4 n), (4, .one (ex (.int .i64 (n : Int)))), (5, .ptr 5 0), (18, .app 503 4 n), (19, .one (ex (.int .i64 (n : Int)))), (20, .one (ex (.int .i64 (i.1 : Int))))], [(503, rows bcells n), (753, []), (5, qCells (psum n i.1))]⟩) (fun i => n - i.1) ⟨0, Nat.zero_le _⟩ ?_ ?_
    · refine Sub.mk ?_ ?_
      · repeat (first | exact trivial | refine jv rfl ?_ | refine jw rfl (js0 rfl) ?_ | refine jw rfl ⟨js0 rfl, js0 rfl⟩ ?_ | refine jx rfl ⟨js0 rfl, js0 rfl⟩ ?_ | refine jw rfl (clo_live (js0 rfl) (js0 rfl)) ?_ | refine ⟨⟨_, rfl, PLe.refl _⟩, trivial, ?_⟩)
      · repeat (first | exact trivial | refine jz ?_ | refine jy rfl ?_)
    rintro ⟨i, hi⟩
    dsimp only at hi ⊢
    by_cases hlt : i < n
    · have hb := bin_le ⟨n + 1, by omega⟩ ⟨i, by omega⟩
      dsimp only at hb
      have hlen := rows_len bcells_len n
      have hq : ((rows bcells n).drop (i * 4)).take 4 = qCells (bern i) := rows_get bcells_len hlt
      have hk4 : i * 4 + 4 ≤ (rows bcells n).length := by omega
      have e1 : IntKind.i64.wrap ((n : Int) + 1) = ((n + 1 : Nat) : Int) := by rw [w64 (by omega) (by omega)]; rfl
      have e3 : IntKind.i64.wrap ((i : Int) + 1) = ((i + 1 : Nat) : Int) := by rw [w64 (by omega) (by omega)]; rfl
      have S1 := bern_sz (i := i) (by omega)
      have S2 := psum_sz (n := n) (i := i) (by omega) (by omega)
      have S3 := sz_z (z := (bin (n + 1) i : Int)) (by omega) (by omega)
      have C1 := bbinomial En (n + 1) i (by omega) (by omega)
      have C2 := bwhole En (bin (n + 1) i : Int) (by omega) (by omega)
      have C3 := krmul En ((bin (n + 1) i : Int) : Rat) (bern i) (S3.mono (by omega)) (S1.mono (by omega))
      have C4 := kradd En (psum n i) (((bin (n + 1) i : Int) : Rat) * bern i) (S2.mono (by omega)) ((szq_mul S3 S1).mono (by omega))
      repeat (first | refine js ?_ | refine jb ?_)
      refine jr ?_
      refine jS (rt_bin_to rfl rfl (fun w => run_lti w _ _ _ _ _ _) (vbool (decide_eq_true (by first | assumption | omega)))) ?_
      refine RG.nil (by kernel_rfl) ?_
      repeat (first | refine js ?_ | refine jb ?_)
      refine WpD.condT rfl ?_
      repeat (first | refine js ?_ | refine jb ?_)
      refine WpD.skip ?_
      repeat (first | refine js ?_ | refine jb ?_)
      refine jr ?_
      refine jm rfl ?_
      refine jS (ru_indexA rfl rfl hlt rfl) ?_
      refine jS (ru_loadRS rfl rfl (by first | assumption | omega) (by assumption)) ?_
      refine jT (ru_alloc rfl rfl rfl) ?_
      refine ja rfl ?_
      refine jO (ru_storeR rfl rfl rfl rfl rfl rfl) ?_
      refine RG.nil (by kernel_rfl) ?_
      repeat (first | refine js ?_ | refine jb ?_)
      refine jr ?_
      refine jS (ru_loadR rfl rfl rfl rfl) ?_
      refine jm rfl ?_
      refine jS (rt_bin_to rfl rfl (fun w => run_addi w _ _ _ _ _ _) (vint e1)) ?_
      refine jm rfl ?_
      refine jS (ru_call C1 ⟨rfl, rfl, trivial⟩) ?_
      refine jS (ru_call C2 ⟨rfl, trivial⟩) ?_
      refine jS (ru_loadR rfl rfl rfl rfl) ?_
      refine jS (ru_call C3 ⟨rfl, rfl, trivial⟩) ?_
      refine jS (ru_call C4 ⟨rfl, rfl, trivial⟩) ?_
      refine jO (ru_storeR rfl rfl rfl rfl rfl rfl) ?_
      refine RG.nil (by kernel_rfl) ?_
      repeat (first | refine js ?_ | refine jb ?_)
      refine jr ?_
      refine jS (rt_bin_to rfl rfl (fun w => run_addi w _ _ _ _ _ _) (vint e3)) ?_
      refine jm rfl ?_
      refine RG.nil (by kernel_rfl) ?_
      refine ⟨⟨i + 1, by omega⟩, ?_, by dsimp only; omega⟩
      refine Sub.mk ?_ ?_
      · repeat (first | exact trivial | refine jv rfl ?_ | refine jw rfl (js0 rfl) ?_ | refine jw rfl ⟨js0 rfl, js0 rfl⟩ ?_ | refine jx rfl ⟨js0 rfl, js0 rfl⟩ ?_ | refine jw rfl (clo_live (js0 rfl) (js0 rfl)) ?_ | refine ⟨⟨_, rfl, PLe.refl _⟩, trivial, ?_⟩)
      · repeat (first | exact trivial | refine jz ?_ | refine jy rfl ?_)
    · have : i = n := by omega
      subst this
      have e1 : IntKind.i64.wrap (-(i : Int)) = -(i : Int) := w64 (by omega) (by omega)
      have e2 : IntKind.i64.wrap (-(i : Int) - 1) = -((i : Int) + 1) := by rw [w64 (by omega) (by omega)]; omega
      have e3 : IntKind.i64.wrap ((i : Int) + 1) = ((i + 1 : Nat) : Int) := by rw [w64 (by omega) (by omega)]; rfl
      have S2 := psum_sz (n := i) (i := i) (by omega) (by omega)
      have S3 := sz_z (z := -((i : Int) + 1)) (by omega) (by omega)
      have C1 := bwhole En (-((i : Int) + 1)) (by omega) (by omega)
      have C2 := krquo En (psum i i) ((-((i : Int) + 1) : Int) : Rat) (S2.mono (by omega)) (S3.mono (by omega)) (by intro h; have := Rat.intCast_eq_zero_iff.1 h; omega)
      rw [bern_step hn1 (by omega)] at C2
      have hlen := rows_len bcells_len i
      have hr : rows bcells i ++ qCells (bern i) = rows bcells (i + 1) := (rows_succ bcells i).symm
      repeat (first | refine js ?_ | refine jb ?_)
      refine jr ?_
      refine jS (rt_bin_to rfl rfl (fun w => run_lti w _ _ _ _ _ _) (vbool (decide_eq_false (by first | assumption | omega)))) ?_
      refine RG.nil (by kernel_rfl) ?_
      repeat (first | refine js ?_ | refine jb ?_)
      refine WpD.condF rfl ?_
      repeat (first | refine js ?_ | refine jb ?_)
      refine WpD.exit ?_
      repeat (first | refine js ?_ | refine jb ?_)
      refine jr ?_
      refine jS (ru_loadR rfl rfl rfl rfl) ?_
      refine jm rfl ?_
      refine jS (rt_un_to rfl (fun w => run_negi w _ _) (vint e1)) ?_
      refine jS (rt_bin_to rfl rfl (fun w => run_subi w _ _ _ _ _ _) (vint e2)) ?_
      refine jS (ru_call C1 ⟨rfl, trivial⟩) ?_
      refine jS (ru_call C2 ⟨rfl, rfl, trivial⟩) ?_
      refine jm rfl ?_
      refine jS (rt_extract rfl rfl) ?_
      refine jS (rt_extract rfl rfl) ?_
      refine jT (ru_alloc rfl rfl rfl) ?_
      refine jO (ru_storeR rfl rfl rfl rfl rfl rfl) ?_
      refine ja rfl ?_
      refine RG.nil (by kernel_rfl) ?_
      repeat (first | refine js ?_ | refine jb ?_)
      refine jr ?_
      refine jm rfl ?_
      refine jS (ru_loadR rfl rfl rfl rfl) ?_
      refine jS (rc_buildR (ps := [(_, _)]) ⟨rfl, Part.c rfl, trivial⟩ rfl rfl rfl) ?_
      refine RG.SW (LT.plain rfl (ru_appendA 547 rfl rfl hlen rfl (by omega) (by omega) rfl rfl rfl rfl rfl hr)) rfl ?_
      refine ja rfl ?_
      refine RG.nil (by kernel_rfl) ?_
      repeat (first | refine js ?_ | refine jb ?_)
      refine jr ?_
      refine jm rfl ?_
      refine jS (rt_bin_to rfl rfl (fun w => run_addi w _ _ _ _ _ _) (vint e3)) ?_
      refine ja rfl ?_
      refine RG.nil (by kernel_rfl) ?_
      refine ⟨⟨i + 1, by omega, by omega⟩, ?_, by dsimp only; omega⟩
      refine Sub.ren 503 547 rfl ?_ ?_ rfl
      · repeat (first | exact trivial | refine ⟨.inl ⟨⟨_, rfl, PLe.refl _⟩, trivial, trivial⟩, ?_⟩ | refine ⟨.inr ⟨_, _, rfl, .inl rfl, ⟨Option.some_ne_none _, Option.some_ne_none _⟩⟩, ?_⟩ | refine ⟨.inl ⟨⟨_, rfl, rfl⟩, Option.some_ne_none _, ⟨(by decide), (by decide)⟩⟩, ?_⟩ | refine ⟨.inl ⟨⟨_, rfl, rfl⟩, ⟨Option.some_ne_none _, Option.some_ne_none _⟩, ⟨(by decide), (by decide), (by decide), (by decide)⟩⟩, ?_⟩ | refine ⟨.inl ⟨⟨_, rfl, rfl⟩, clo_live (Option.some_ne_none _) (Option.some_ne_none _), clo_avoid (by decide) (by decide) (by decide) (by decide)⟩, ?_⟩ | refine ⟨.inr ⟨_, _, rfl, .inr ⟨(by omega), rfl⟩, Option.some_ne_none _⟩, ?_⟩)
      · repeat (first | exact trivial | refine ⟨.inr ⟨(by decide), .inr rfl⟩, ?_⟩ | refine ⟨.inl ⟨rfl, _, rfl, PsLe.refl _⟩, ?_⟩ | refine ⟨.inr ⟨(by decide), .inl ⟨(by decide), _, rfl, PsLe.refl _⟩⟩, ?_⟩)
  · have : n = k + 1 := by omega
    subst this
    repeat (first | refine js ?_ | refine jb ?_)
    refine jr ?_
    refine jm rfl ?_
    refine jm rfl ?_
    refine jS (rt_bin_to rfl rfl (fun w => run_lei w _ _ _ _ _ _) (vbool (decide_eq_false (by first | assumption | omega)))) ?_
    refine RG.nil (by kernel_rfl) ?_
    repeat (first | refine js ?_ | refine jb ?_)
    refine WpD.condF rfl ?_
    repeat (first | refine js ?_ | refine jb ?_)
    refine WpD.exit ?_
    repeat (first | refine js ?_ | refine jb ?_)
    refine WpD.sub (τ := ⟨[(3, .one (slc 4 (rows bcells (k + 1)) (k + 1)))], []⟩) ?_ ?_
    · have hlen := rows_len bcells_len (k + 1)
      refine Sub.pub 503 rfl rfl ⟨.inr (.inr (.inl ⟨_, _, _, rfl, rfl, hlen, PLe.refl _⟩)), trivial⟩ trivial rfl

    repeat (first | refine js ?_ | refine jb ?_)
    refine jr ?_
    refine jm rfl ?_
    refine ja rfl ?_
    refine RG.nil (by kernel_rfl) ?_
    repeat (first | refine js ?_ | refine jb ?_)
    refine WpD.ret ?_
    exact ret1 rfl (.tmp rfl) (PLe.refl _)
end
end Go.Proofs.YtgbiccenhionaaaGreatDoor

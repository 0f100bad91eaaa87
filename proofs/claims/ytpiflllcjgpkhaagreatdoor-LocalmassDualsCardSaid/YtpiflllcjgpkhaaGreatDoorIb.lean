/- Integers of the program: Normalize, Cmp, Pow. -/
import Derived.Test.YtpiflllcjgpkhaaGreatDoorIa
set_option maxRecDepth 3000
namespace Go.Proofs.YtpiflllcjgpkhaaGreatDoor
open Go.RowKit Limb
instance cbody93 : CBody Tryz.prog 93 := ⟨⟨_, Tryz.func93, rfl, by rfl⟩⟩
instance cbody77 : CBody Tryz.prog 77 := ⟨⟨_, Tryz.func77, rfl, by rfl⟩⟩
instance cbody58 : CBody Tryz.prog 58 := ⟨⟨_, Tryz.func58, rfl, by rfl⟩⟩
def cmpZ (X Y : Int) : Int := if X < Y then -1 else if Y < X then 1 else 0
theorem cmpZ_bd (X Y : Int) : -1 ≤ cmpZ X Y ∧ cmpZ X Y ≤ 1 := by unfold cmpZ; split <;> (try split) <;> omega
theorem sg3_lt {X Y : Int} (h : sg3 X < sg3 Y) : X < Y := by
  unfold sg3 at h
  split at h <;> split at h <;> (try split at h) <;> (try split at h) <;> omega
theorem cmp_sg {s s' : Bool} {x y : Nat} (h : sg3 (sgnZ s x) = sg3 (sgnZ s' y)) : sg3 (sgnZ s x) * (if x < y then -1 else if y < x then 1 else 0) = cmpZ (sgnZ s x) (sgnZ s' y) := by
  have hX : sgnZ s x = x ∨ sgnZ s x = -(x : Int) := by unfold sgnZ; split <;> simp
  have hY : sgnZ s' y = y ∨ sgnZ s' y = -(y : Int) := by unfold sgnZ; split <;> simp
  generalize sgnZ s x = X at *
  generalize sgnZ s' y = Y at *
  unfold cmpZ
  rcases Int.lt_trichotomy X 0 with hx | hx | hx
  · have e : sg3 X = -1 := by unfold sg3; rw [if_neg (by omega), if_pos hx]
    have hy : Y < 0 := by
      rw [e] at h; unfold sg3 at h
      split at h
      · omega
      · split at h <;> omega
    rw [e]
    repeat' split
    all_goals omega
  · have e : sg3 X = 0 := by unfold sg3; rw [if_pos hx]
    have hy : Y = 0 := by
      rw [e] at h; unfold sg3 at h
      split at h
      · assumption
      · split at h <;> omega
    rw [e, hx, hy, Int.zero_mul]; rfl
  · have e : sg3 X = 1 := by unfold sg3; rw [if_neg (by omega), if_neg (by omega)]
    have hy : 0 < Y := by
      rw [e] at h; unfold sg3 at h
      split at h
      · omega
      · split at h <;> omega
    rw [e]
    repeat' split
    all_goals omega
section
variable (En : Ev)
theorem inormalize (s : Bool) (l : List Nat) (hl : Lm l) (hlen : l.length ≤ 274877906944) : Fn Tryz.prog En 93 [zR s l] (zC (zv s l)) := by
  have C1 := ntrim En l hl (by omega)
  have D1 := digs_lenle hlen hl
  unfold zv
  generalize val l = x at *
  have C2 := nclone En (digs x) (lm_digs _) (by omega)
  have C3 := ibuild En s x
  refine fn_of_body Tryz.func93 rfl Tryz.ntmps93 rfl ?_
  intro w0 h0
  repeat (first | refine js ?_ | refine jb ?_)
  refine jr ?_
  refine jT (ru_boxR rfl rfl rfl) ?_
  refine jT (ru_alloc rfl rfl rfl) ?_
  refine RG.nil (by kernel_rfl) ?_
  repeat (first | refine js ?_ | refine jb ?_)
  refine jr ?_
  refine jS (ru_fieldAddr rfl rfl) ?_
  refine jS (ru_load1 rfl rfl rfl) ?_
  refine jS (ru_fieldAddr rfl rfl) ?_
  refine jS (ru_load1 rfl rfl rfl) ?_
  refine jS (ru_call C1 ⟨rfl, trivial⟩) ?_
  refine jS (ru_call C2 ⟨rfl, trivial⟩) ?_
  refine jS (ru_call C3 ⟨rfl, rfl, trivial⟩) ?_
  refine jO (ru_storeR rfl rfl rfl rfl rfl rfl) ?_
  refine RG.nil (by kernel_rfl) ?_
  repeat (first | refine js ?_ | refine jb ?_)
  refine WpD.ret ?_
  exact ret1 rfl (.cell rfl rfl CRow.ok rfl) (PLe.refl _)
set_option maxHeartbeats 1000000 in
theorem icmp (s : Bool) (l : List Nat) (s' : Bool) (l' : List Nat) (hl : Lm l) (hl' : Lm l') (hlen : l.length ≤ 274877906944) (hlen' : l'.length ≤ 274877906944) :
    Fn Tryz.prog En 77 [zR s l, zR s' l'] (ex (.int .i64 (cmpZ (zv s l) (zv s' l')))) := by
  have C1 := isign En s l hl (by omega)
  have C2 := isign En s' l' hl' (by omega)
  have C3 := ntrim En l hl (by omega)
  have C4 := ntrim En l' hl' (by omega)
  have D1 := digs_lenle hlen hl
  unfold zv at *
  generalize val l = x at *
  generalize val l' = y at *
  have C5 := ncompare En (digs x) (digs y) (by omega) (lm_digs _) (lm_digs _)
  rw [cmpL_digs] at C5
  by_cases h1 : sg3 (sgnZ s x) < sg3 (sgnZ s' y)
  · have b1 : decide (sg3 (sgnZ s x) < sg3 (sgnZ s' y)) = true := decide_eq_true h1
    rw [show cmpZ (sgnZ s x) (sgnZ s' y) = -1 by unfold cmpZ; rw [if_pos (sg3_lt h1)]]
    refine fn_of_body Tryz.func77 rfl Tryz.ntmps77 rfl ?_
    intro w0 h0
    repeat (first | refine js ?_ | refine jb ?_)
    refine jr ?_
    refine jT (ru_boxR rfl rfl rfl) ?_
    refine jT (ru_boxR rfl rfl rfl) ?_
    refine ja rfl ?_
    refine RG.nil (by kernel_rfl) ?_
    repeat (first | refine js ?_ | refine jb ?_)
    refine jr ?_
    refine jS (ru_loadR rfl rfl rfl rfl) ?_
    refine jS (ru_call C1 ⟨rfl, trivial⟩) ?_
    refine jS (ru_loadR rfl rfl rfl rfl) ?_
    refine jS (ru_call C2 ⟨rfl, trivial⟩) ?_
    refine ja rfl ?_
    refine ja rfl ?_
    refine RG.nil (by kernel_rfl) ?_
    repeat (first | refine js ?_ | refine jb ?_)
    refine jr ?_
    refine jm rfl ?_
    refine jm rfl ?_
    refine jS (rt_bin_to rfl rfl (fun w => run_lti w _ _ _ _ _ _) (vbool b1)) ?_
    refine ja rfl ?_
    refine RG.nil (by kernel_rfl) ?_
    repeat (first | refine js ?_ | refine jb ?_)
    refine WpD.condT rfl ?_
    repeat (first | refine js ?_ | refine jb ?_)
    refine jr ?_
    refine ja rfl ?_
    refine RG.nil (by kernel_rfl) ?_
    repeat (first | refine js ?_ | refine jb ?_)
    refine WpD.ret ?_
    exact ret1 rfl (.tmp rfl) (PLe.refl _)
  · have b1 : decide (sg3 (sgnZ s x) < sg3 (sgnZ s' y)) = false := decide_eq_false h1
    by_cases h2 : sg3 (sgnZ s x) > sg3 (sgnZ s' y)
    · have b2 : decide (sg3 (sgnZ s x) > sg3 (sgnZ s' y)) = true := decide_eq_true h2
      have h3 := sg3_lt h2
      rw [show cmpZ (sgnZ s x) (sgnZ s' y) = 1 by unfold cmpZ; rw [if_neg (by omega), if_pos h3]]
      refine fn_of_body Tryz.func77 rfl Tryz.ntmps77 rfl ?_
      intro w0 h0
      repeat (first | refine js ?_ | refine jb ?_)
      refine jr ?_
      refine jT (ru_boxR rfl rfl rfl) ?_
      refine jT (ru_boxR rfl rfl rfl) ?_
      refine ja rfl ?_
      refine RG.nil (by kernel_rfl) ?_
      repeat (first | refine js ?_ | refine jb ?_)
      refine jr ?_
      refine jS (ru_loadR rfl rfl rfl rfl) ?_
      refine jS (ru_call C1 ⟨rfl, trivial⟩) ?_
      refine jS (ru_loadR rfl rfl rfl rfl) ?_
      refine jS (ru_call C2 ⟨rfl, trivial⟩) ?_
      refine ja rfl ?_
      refine ja rfl ?_
      refine RG.nil (by kernel_rfl) ?_
      repeat (first | refine js ?_ | refine jb ?_)
      refine jr ?_
      refine jm rfl ?_
      refine jm rfl ?_
      refine jS (rt_bin_to rfl rfl (fun w => run_lti w _ _ _ _ _ _) (vbool b1)) ?_
      refine ja rfl ?_
      refine RG.nil (by kernel_rfl) ?_
      repeat (first | refine js ?_ | refine jb ?_)
      refine WpD.condF rfl ?_
      repeat (first | refine js ?_ | refine jb ?_)
      refine jr ?_
      refine jm rfl ?_
      refine jm rfl ?_
      refine jS (rt_bin_to rfl rfl (fun w => run_gti w _ _ _ _ _ _) (vbool b2)) ?_
      refine ja rfl ?_
      refine RG.nil (by kernel_rfl) ?_
      repeat (first | refine js ?_ | refine jb ?_)
      refine WpD.condT rfl ?_
      repeat (first | refine js ?_ | refine jb ?_)
      refine jr ?_
      refine ja rfl ?_
      refine RG.nil (by kernel_rfl) ?_
      repeat (first | refine js ?_ | refine jb ?_)
      refine WpD.ret ?_
      exact ret1 rfl (.tmp rfl) (PLe.refl _)
    · have b2 : decide (sg3 (sgnZ s x) > sg3 (sgnZ s' y)) = false := decide_eq_false h2
      have e8 : IntKind.i64.wrap (sg3 (sgnZ s x) * (if x < y then -1 else if y < x then 1 else 0)) = cmpZ (sgnZ s x) (sgnZ s' y) := by
        rw [cmp_sg (s' := s') (y := y) (by omega)]
        have := cmpZ_bd (sgnZ s x) (sgnZ s' y)
        exact w64 (by omega) (by omega)
      refine fn_of_body Tryz.func77 rfl Tryz.ntmps77 rfl ?_
      intro w0 h0
      repeat (first | refine js ?_ | refine jb ?_)
      refine jr ?_
      refine jT (ru_boxR rfl rfl rfl) ?_
      refine jT (ru_boxR rfl rfl rfl) ?_
      refine ja rfl ?_
      refine RG.nil (by kernel_rfl) ?_
      repeat (first | refine js ?_ | refine jb ?_)
      refine jr ?_
      refine jS (ru_loadR rfl rfl rfl rfl) ?_
      refine jS (ru_call C1 ⟨rfl, trivial⟩) ?_
      refine jS (ru_loadR rfl rfl rfl rfl) ?_
      refine jS (ru_call C2 ⟨rfl, trivial⟩) ?_
      refine ja rfl ?_
      refine ja rfl ?_
      refine RG.nil (by kernel_rfl) ?_
      repeat (first | refine js ?_ | refine jb ?_)
      refine jr ?_
      refine jm rfl ?_
      refine jm rfl ?_
      refine jS (rt_bin_to rfl rfl (fun w => run_lti w _ _ _ _ _ _) (vbool b1)) ?_
      refine ja rfl ?_
      refine RG.nil (by kernel_rfl) ?_
      repeat (first | refine js ?_ | refine jb ?_)
      refine WpD.condF rfl ?_
      repeat (first | refine js ?_ | refine jb ?_)
      refine jr ?_
      refine jm rfl ?_
      refine jm rfl ?_
      refine jS (rt_bin_to rfl rfl (fun w => run_gti w _ _ _ _ _ _) (vbool b2)) ?_
      refine ja rfl ?_
      refine RG.nil (by kernel_rfl) ?_
      repeat (first | refine js ?_ | refine jb ?_)
      refine WpD.condF rfl ?_
      repeat (first | refine js ?_ | refine jb ?_)
      refine WpD.skip ?_
      repeat (first | refine js ?_ | refine jb ?_)
      refine jr ?_
      refine jm rfl ?_
      refine jS (ru_fieldAddr rfl rfl) ?_
      refine jS (ru_load1 rfl rfl rfl) ?_
      refine jS (ru_call C3 ⟨rfl, trivial⟩) ?_
      refine jS (ru_fieldAddr rfl rfl) ?_
      refine jS (ru_load1 rfl rfl rfl) ?_
      refine jS (ru_call C4 ⟨rfl, trivial⟩) ?_
      refine jS (ru_call C5 ⟨rfl, rfl, trivial⟩) ?_
      refine jS (rt_bin_to rfl rfl (fun w => run_muli w _ _ _ _ _ _) (vint e8)) ?_
      refine ja rfl ?_
      refine RG.nil (by kernel_rfl) ?_
      repeat (first | refine js ?_ | refine jb ?_)
      refine WpD.ret ?_
      exact ret1 rfl (.tmp rfl) (PLe.refl _)
end
/-- Powers. -/
def bitv : Nat → Nat
  | 0 => 0
  | j + 1 => 2 ^ j
theorem and_bit0 : ∀ n : Fin 65, ∀ i : Fin 7, (IntKind.i64.wrap ((BitVec.ofInt IntKind.i64.bits ((n.1 : Nat) : Int) &&& BitVec.ofInt IntKind.i64.bits ((bitv (i.1 + 1) : Nat) : Int)).toNat) != 0) = decide (n.1 / 2 ^ i.1 % 2 = 1) := by decide +kernel
theorem and_bit {n i : Nat} (hn : n ≤ 64) (hi : i < 7) : (IntKind.i64.wrap ((BitVec.ofInt IntKind.i64.bits ((n : Nat) : Int) &&& BitVec.ofInt IntKind.i64.bits ((bitv (i + 1) : Nat) : Int)).toNat) != 0) = decide (n / 2 ^ i % 2 = 1) := and_bit0 ⟨n, by omega⟩ ⟨i, hi⟩
theorem half_bit0 : ∀ i : Fin 7, IntKind.i64.wrap (((bitv (i.1 + 1) : Nat) : Int).tdiv 2) = ((bitv i.1 : Nat) : Int) := by decide +kernel
theorem half_bit {i : Nat} (hi : i < 7) : IntKind.i64.wrap (((bitv (i + 1) : Nat) : Int).tdiv 2) = ((bitv i : Nat) : Int) := half_bit0 ⟨i, hi⟩
theorem pow_len {x k m : Nat} (h : x < B ^ k) (hk : k ≤ 1073741824) (hm : m ≤ 64) : (digs (x ^ m)).length ≤ 274877906944 := by
  refine Nat.le_trans (digs_length_le (k := k * m + 1) ?_) ?_
  · refine Nat.lt_of_le_of_lt (Nat.pow_le_pow_left (Nat.le_of_lt h) m) ?_
    rw [← Nat.pow_mul]
    exact Nat.pow_lt_pow_right (by rw [B_def]; omega) (by omega)
  · have : k * m ≤ 1073741824 * 64 := Nat.mul_le_mul hk hm
    omega
section
variable (En : Ev)
set_option maxHeartbeats 1000000 in
theorem ipow (s : Bool) (l : List Nat) (n : Nat) (hl : Lm l) (hlen : l.length ≤ 1073741824) (hn : n ≤ 64) :
    Fn Tryz.prog En 58 [zR s l, ex (.int .i64 (n : Int))] (tupP [zC (zv s l ^ n), ex (.bool true)]) := by
  have C1 := ismall En 1 (by omega) (by omega)
  have b1 : decide ((n : Int) < 0) = false := decide_eq_false (by omega)
  have b2 : decide ((n : Int) > 64) = false := decide_eq_false (by omega)
  have hlt := val_lt hl
  have sp : ∀ m, m ≤ 64 → (digs (zv s l ^ m).natAbs).length ≤ 274877906944 := fun m hm => by
    rw [Int.natAbs_pow, zv_abs]; exact pow_len hlt hlen hm
  generalize hX : zv s l = X at *
  refine fn_of_body Tryz.func58 rfl Tryz.ntmps58 rfl ?_
  intro w0 h0
  repeat (first | refine js ?_ | refine jb ?_)
  refine jr ?_
  refine jT (ru_boxR rfl rfl rfl) ?_
  refine jT (ru_alloc rfl rfl rfl) ?_
  refine ja rfl ?_
  refine RG.nil (by kernel_rfl) ?_
  repeat (first | refine js ?_ | refine jb ?_)
  refine jr ?_
  refine jm rfl ?_
  refine jS (rt_bin_to rfl rfl (fun w => run_lti w _ _ _ _ _ _) (vbool b1)) ?_
  refine jm rfl ?_
  first | refine RG.S0 (LT.run rfl rfl rfl (rt_move rfl)) ?_ | refine RG.S0 (LT.skip rfl rfl rfl) ?_
  first | refine RG.S0 (LT.run rfl rfl rfl (rt_bin_to rfl rfl (fun w => run_gti w _ _ _ _ _ _) (vbool b2))) ?_ | refine RG.S0 (LT.skip rfl rfl rfl) ?_
  first | refine jS (rt_pick_true rfl rfl) ?_ | refine jS (rt_pick_false rfl rfl) ?_
  refine RG.nil (by kernel_rfl) ?_
  repeat (first | refine js ?_ | refine jb ?_)
  refine WpD.condF rfl ?_
  repeat (first | refine js ?_ | refine jb ?_)
  refine WpD.skip ?_
  repeat (first | refine js ?_ | refine jb ?_)
  refine jr ?_
  refine jS (ru_call C1 ⟨rfl, trivial⟩) ?_
  refine jT (ru_alloc rfl rfl rfl) ?_
  refine jO (ru_storeR rfl rfl rfl rfl rfl rfl) ?_
  refine RG.nil (by kernel_rfl) ?_
  repeat (first | refine js ?_ | refine jb ?_)
  refine jr ?_
  refine ja rfl ?_
  refine RG.nil (by kernel_rfl) ?_
  repeat (first | refine js ?_ | refine jb ?_)
  refine WpD.loop (α := {j : Nat // j ≤ 7}) (fun j => ⟨[(1, .one (ex (.int .i64 (n : Int)))), (2, .ptr 2 0), (4, .ptr 4 0), (6, .ptr 6 0), (7, .one (ex (.int .i64 ((bitv j.1 : Nat) : Int))))], [(2, [ex (.bool s), mag l]), (4, [ex (.bool false), ex (.slice none 0 0)]), (6, zCells (X ^ (n / 2 ^ j.1)))]⟩) (fun j => j.1) ⟨7, Nat.le_refl _⟩ ?_ ?_
  · have e : n / 2 ^ 7 = 0 := Nat.div_eq_of_lt (by omega)
    dsimp only
    rw [e, Int.pow_zero]
    refine Sub.mk ?_ ?_
    · repeat (first | exact trivial | refine jv rfl ?_ | refine jw rfl (js0 rfl) ?_ | refine jw rfl ⟨js0 rfl, js0 rfl⟩ ?_ | refine jx rfl ⟨js0 rfl, js0 rfl⟩ ?_ | refine jw rfl (clo_live (js0 rfl) (js0 rfl)) ?_ | refine ⟨⟨_, rfl, PLe.refl _⟩, trivial, ?_⟩)
    · repeat (first | exact trivial | refine jz ?_ | refine jy rfl ?_)
  · rintro ⟨j, hj⟩
    dsimp only
    cases j with
    | zero =>
      have b3 : decide (((bitv 0 : Nat) : Int) > 0) = false := by decide
      rw [Nat.pow_zero, Nat.div_one]
      repeat (first | refine js ?_ | refine jb ?_)
      refine jr ?_
      refine jm rfl ?_
      refine jS (rt_bin_to rfl rfl (fun w => run_gti w _ _ _ _ _ _) (vbool b3)) ?_
      refine RG.nil (by kernel_rfl) ?_
      repeat (first | refine js ?_ | refine jb ?_)
      refine WpD.condF rfl ?_
      repeat (first | refine js ?_ | refine jb ?_)
      refine WpD.exit ?_
      repeat (first | refine js ?_ | refine jb ?_)
      refine jr ?_
      refine jS (ru_loadR rfl rfl rfl rfl) ?_
      refine jO (ru_storeR rfl rfl rfl rfl rfl rfl) ?_
      refine ja rfl ?_
      refine RG.nil (by kernel_rfl) ?_
      repeat (first | refine js ?_ | refine jb ?_)
      refine WpD.ret ?_
      exact ret2 rfl (.cell rfl rfl CRow.ok rfl) (.tmp rfl) (PLe.refl _)
    | succ j =>
      have b3 : decide (((bitv (j + 1) : Nat) : Int) > 0) = true := decide_eq_true (by show (((2 ^ j : Nat)) : Int) > 0; have := Nat.two_pow_pos j; omega)
      have e0 : n / 2 ^ (j + 1) = n / 2 ^ j / 2 := by rw [Nat.pow_succ, Nat.div_div_eq_div_mul]
      have hN : n / 2 ^ j ≤ 64 := Nat.le_trans (Nat.div_le_self _ _) hn
      have ab := and_bit hn (i := j) (by omega)
      have hb := half_bit (i := j) (by omega)
      rw [e0]
      generalize hNe : n / 2 ^ j = N at *
      have C2 := imul En (decide (X ^ (N / 2) < 0)) (digs (X ^ (N / 2)).natAbs) (decide (X ^ (N / 2) < 0)) (digs (X ^ (N / 2)).natAbs) (lm_digs _) (lm_digs _) (sp _ (by omega)) (sp _ (by omega))
      rw [zv_C, ← Int.pow_add] at C2
      have C3 := imul En (decide (X ^ (N / 2 + N / 2) < 0)) (digs (X ^ (N / 2 + N / 2)).natAbs) s l (lm_digs _) hl (sp _ (by omega)) (by omega)
      rw [zv_C, hX, ← Int.pow_succ] at C3
      by_cases hbit : N % 2 = 1
      · rw [decide_eq_true hbit] at ab
        have eN : (N / 2 + N / 2).succ = N := by omega
        rw [eN] at C3
        repeat (first | refine js ?_ | refine jb ?_)
        refine jr ?_
        refine jm rfl ?_
        refine jS (rt_bin_to rfl rfl (fun w => run_gti w _ _ _ _ _ _) (vbool b3)) ?_
        refine RG.nil (by kernel_rfl) ?_
        repeat (first | refine js ?_ | refine jb ?_)
        refine WpD.condT rfl ?_
        repeat (first | refine js ?_ | refine jb ?_)
        refine WpD.skip ?_
        repeat (first | refine js ?_ | refine jb ?_)
        refine jr ?_
        refine jS (ru_loadR rfl rfl rfl rfl) ?_
        refine jS (ru_loadR rfl rfl rfl rfl) ?_
        refine jS (ru_call C2 ⟨rfl, rfl, trivial⟩) ?_
        refine jO (ru_storeR rfl rfl rfl rfl rfl rfl) ?_
        refine RG.nil (by kernel_rfl) ?_
        repeat (first | refine js ?_ | refine jb ?_)
        refine jr ?_
        refine jm rfl ?_
        refine jm rfl ?_
        refine jS (rt_bin rfl rfl (fun w => run_andi w _ _ _ _ _ _)) ?_
        refine jS (rt_bin_to rfl rfl (fun w => run_nei w _ _ _ _ _ _) (vbool ab)) ?_
        refine RG.nil (by kernel_rfl) ?_
        repeat (first | refine js ?_ | refine jb ?_)
        refine WpD.condT rfl ?_
        repeat (first | refine js ?_ | refine jb ?_)
        refine jr ?_
        refine jS (ru_loadR rfl rfl rfl rfl) ?_
        refine jS (ru_loadR rfl rfl rfl rfl) ?_
        refine jS (ru_call C3 ⟨rfl, rfl, trivial⟩) ?_
        refine jO (ru_storeR rfl rfl rfl rfl rfl rfl) ?_
        refine RG.nil (by kernel_rfl) ?_
        repeat (first | refine js ?_ | refine jb ?_)
        refine jr ?_
        refine jm rfl ?_
        refine jS (rt_bin_to rfl rfl (fun w => run_quoi w _ _ _ _ _ _ (by first | decide | omega | assumption)) (vint hb)) ?_
        refine ja rfl ?_
        refine RG.nil (by kernel_rfl) ?_
        refine ⟨⟨j, by omega⟩, ?_, Nat.lt_succ_self j⟩
        dsimp only
        rw [hNe]
        refine Sub.mk ?_ ?_
        · repeat (first | exact trivial | refine jv rfl ?_ | refine jw rfl (js0 rfl) ?_ | refine jw rfl ⟨js0 rfl, js0 rfl⟩ ?_ | refine jx rfl ⟨js0 rfl, js0 rfl⟩ ?_ | refine jw rfl (clo_live (js0 rfl) (js0 rfl)) ?_ | refine ⟨⟨_, rfl, PLe.refl _⟩, trivial, ?_⟩)
        · repeat (first | exact trivial | refine jz ?_ | refine jy rfl ?_)
      · rw [decide_eq_false hbit] at ab
        have eN : N / 2 + N / 2 = N := by omega
        rw [eN] at C2
        repeat (first | refine js ?_ | refine jb ?_)
        refine jr ?_
        refine jm rfl ?_
        refine jS (rt_bin_to rfl rfl (fun w => run_gti w _ _ _ _ _ _) (vbool b3)) ?_
        refine RG.nil (by kernel_rfl) ?_
        repeat (first | refine js ?_ | refine jb ?_)
        refine WpD.condT rfl ?_
        repeat (first | refine js ?_ | refine jb ?_)
        refine WpD.skip ?_
        repeat (first | refine js ?_ | refine jb ?_)
        refine jr ?_
        refine jS (ru_loadR rfl rfl rfl rfl) ?_
        refine jS (ru_loadR rfl rfl rfl rfl) ?_
        refine jS (ru_call C2 ⟨rfl, rfl, trivial⟩) ?_
        refine jO (ru_storeR rfl rfl rfl rfl rfl rfl) ?_
        refine RG.nil (by kernel_rfl) ?_
        repeat (first | refine js ?_ | refine jb ?_)
        refine jr ?_
        refine jm rfl ?_
        refine jm rfl ?_
        refine jS (rt_bin rfl rfl (fun w => run_andi w _ _ _ _ _ _)) ?_
        refine jS (rt_bin_to rfl rfl (fun w => run_nei w _ _ _ _ _ _) (vbool ab)) ?_
        refine RG.nil (by kernel_rfl) ?_
        repeat (first | refine js ?_ | refine jb ?_)
        refine WpD.condF rfl ?_
        repeat (first | refine js ?_ | refine jb ?_)
        refine WpD.skip ?_
        repeat (first | refine js ?_ | refine jb ?_)
        refine jr ?_
        refine jm rfl ?_
        refine jS (rt_bin_to rfl rfl (fun w => run_quoi w _ _ _ _ _ _ (by first | decide | omega | assumption)) (vint hb)) ?_
        refine ja rfl ?_
        refine RG.nil (by kernel_rfl) ?_
        refine ⟨⟨j, by omega⟩, ?_, Nat.lt_succ_self j⟩
        dsimp only
        rw [hNe]
        refine Sub.mk ?_ ?_
        · repeat (first | exact trivial | refine jv rfl ?_ | refine jw rfl (js0 rfl) ?_ | refine jw rfl ⟨js0 rfl, js0 rfl⟩ ?_ | refine jx rfl ⟨js0 rfl, js0 rfl⟩ ?_ | refine jw rfl (clo_live (js0 rfl) (js0 rfl)) ?_ | refine ⟨⟨_, rfl, PLe.refl _⟩, trivial, ?_⟩)
        · repeat (first | exact trivial | refine jz ?_ | refine jy rfl ?_)
end
end Go.Proofs.YtpiflllcjgpkhaaGreatDoor

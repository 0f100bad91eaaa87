/- Valuations: the exponent of a prime number, by doubling powers; the reference's. -/
import Derived.Test.YtnhbdldchoepfaaDoorRa
import Derived.Test.YtnhbdldchoepfaaDoorUb
import Derived.Test.YtnhbdldchoepfaaDoorZe
set_option maxRecDepth 3000
namespace Go.Proofs.YtnhbdldchoepfaaDoor
open Go.RowKit Limb Num
instance cbody14 : CBody Tryd.prog 14 := ⟨⟨_, Tryd.func14, rfl, by rfl⟩⟩
instance cbody35 : CBody Tryd.prog 35 := ⟨⟨_, Tryd.func35, rfl, by rfl⟩⟩
instance cbody15 : CBody Tryd.prog 15 := ⟨⟨_, Tryd.func15, rfl, by rfl⟩⟩
instance cbody17 : CBody Tryd.prog 17 := ⟨⟨_, Tryd.func17, rfl, by rfl⟩⟩
instance cbody5 : CBody Tryd.prog 5 := ⟨⟨_, Tryd.func5, rfl, by rfl⟩⟩
instance cbody6 : CBody Tryd.prog 6 := ⟨⟨_, Tryd.func6, rfl, by rfl⟩⟩
instance cone_i64 : COne Tryd.prog 3 := ⟨⟨_, Tryd.underlying3, rfl, by kernel_rfl⟩⟩
instance czero_i64 : CZero Tryd.prog 3 [.int .i64 0] := ⟨⟨by kernel_rfl, by simp [Value.oneCell']⟩⟩
instance cslice_ints : CSlice Tryd.prog 64 24 := ⟨Tryd.underlying64⟩
instance celem_ints : CElem Tryd.prog 64 24 2 := ⟨Tryd.underlying64, by kernel_rfl⟩
instance crowz_int : CRowZ Tryd.prog 24 2 [.bool false, .slice none 0 0] 32 := ⟨by kernel_rfl, rfl, rfl⟩
def rows (f : Nat → List Pd) (n : Nat) : List Pd := (List.range n).flatMap f
theorem rows_succ (f : Nat → List Pd) (n : Nat) : rows f (n + 1) = rows f n ++ f n := by unfold rows; rw [List.range_succ, List.flatMap_append]; simp
theorem rows_len {f : Nat → List Pd} {k : Nat} (hf : ∀ i, (f i).length = k) : ∀ n, (rows f n).length = n * k
  | 0 => by simp [rows]
  | n + 1 => by rw [rows_succ, List.length_append, rows_len hf n, hf, Nat.succ_mul]
theorem rows_get {f : Nat → List Pd} {k : Nat} (hf : ∀ i, (f i).length = k) : ∀ {n i : Nat}, i < n → ((rows f n).drop (i * k)).take k = f i
  | 0, i, h => by omega
  | n + 1, i, h => by
    rw [rows_succ]
    by_cases e : i = n
    · subst e
      rw [← rows_len hf i, List.drop_left, ← hf i, List.take_length]
    · have hlt : i < n := by omega
      have hle : i * k + k ≤ n * k := by rw [← Nat.succ_mul]; exact Nat.mul_le_mul_right _ hlt
      rw [List.drop_append_of_le_length (by rw [rows_len hf]; omega), List.take_append_of_le_length (by rw [List.length_drop, rows_len hf]; omega)]
      exact rows_get hf hlt
/-! Plain. -/
theorem ppow_ne {p : Int} (hp : 2 ≤ p) (m : Nat) : p ^ m ≠ 0 := Int.pow_ne_zero (by omega)
theorem pdvd {p u : Int} (hp : 2 ≤ p) (hu : ¬ p ∣ u) {k m : Nat} (h : p ^ k ∣ p ^ m * u) : k ≤ m := by
  rcases Nat.lt_or_ge m k with hlt | hge
  · exfalso
    obtain ⟨c, hc⟩ := h
    obtain ⟨d, rfl⟩ : ∃ d, k = m + (d + 1) := ⟨k - m - 1, by omega⟩
    rw [Int.pow_add, Int.mul_assoc] at hc
    have := Int.eq_of_mul_eq_mul_left (ppow_ne hp m) hc
    exact hu ⟨p ^ d * c, by rw [this, Int.pow_succ, Int.mul_comm (p ^ d) p, Int.mul_assoc]⟩
  · exact hge
theorem psplit (p u : Int) {k m : Nat} (h : k ≤ m) : p ^ m * u = p ^ k * (p ^ (m - k) * u) := by
  rw [← Int.mul_assoc, ← Int.pow_add, show k + (m - k) = m by omega]
theorem pquo {p u : Int} (hp : 2 ≤ p) {k m : Nat} (h : k ≤ m) : p ^ m * u / p ^ k = p ^ (m - k) * u := by
  rw [psplit p u h, Int.mul_ediv_cancel_left _ (ppow_ne hp k)]
theorem pmod0 {p u : Int} {k m : Nat} (h : k ≤ m) : p ^ m * u % p ^ k = 0 := by
  rw [psplit p u h, Int.mul_emod_right]
theorem pmod1 {p u : Int} (hp : 2 ≤ p) (hu : ¬ p ∣ u) {k m : Nat} (h : ¬ k ≤ m) : p ^ m * u % p ^ k ≠ 0 := fun e => h (pdvd hp hu (Int.dvd_of_emod_eq_zero e))
theorem val_ex {p : Int} (hp : 2 ≤ p) : ∀ (n : Nat) (x : Int), x.natAbs ≤ n → x ≠ 0 → ∃ (e : Nat) (u : Int), x = p ^ e * u ∧ ¬ p ∣ u
  | 0, x, h, h0 => absurd (by omega) h0
  | n + 1, x, h, h0 => by
    by_cases hd : p ∣ x
    · obtain ⟨c, rfl⟩ := hd
      have hc : c ≠ 0 := by rintro rfl; exact h0 (Int.mul_zero _)
      have hlt : c.natAbs < (p * c).natAbs := by
        rw [Int.natAbs_mul]
        have : 2 * c.natAbs ≤ p.natAbs * c.natAbs := Nat.mul_le_mul (by omega) (Nat.le_refl _)
        omega
      obtain ⟨e, u, h1, h2⟩ := val_ex hp n c (by omega) hc
      exact ⟨e + 1, u, by rw [Int.pow_succ, Int.mul_comm (p ^ e) p, Int.mul_assoc, ← h1], h2⟩
    · exact ⟨0, x, by rw [Int.pow_zero, Int.one_mul], hd⟩
theorem val_le {P e : Nat} {u x : Int} {n : Nat} (hP : 2 ≤ P) (hu : u ≠ 0) (hx : x = (P : Int) ^ e * u) (h : x.natAbs < B ^ n) : e < 32 * n := by
  have h1 : P ^ e ≤ x.natAbs := by
    rw [hx, Int.natAbs_mul, Int.natAbs_pow, Int.natAbs_natCast]
    exact Nat.le_mul_of_pos_right _ (by omega)
  have h2 : 2 ^ e ≤ P ^ e := Nat.pow_le_pow_left hP e
  have h3 : B ^ n = 2 ^ (32 * n) := by rw [Nat.pow_mul]; rfl
  rw [h3] at h
  exact (Nat.pow_lt_pow_iff_right (by omega)).1 (Nat.lt_of_le_of_lt (Nat.le_trans h2 h1) h)
theorem zl_ppow {P : Nat} (hP : P ≤ 2147483647) (k : Nat) : zl ((P : Int) ^ k) ≤ k + 1 := by
  rw [show (P : Int) ^ k = ((P ^ k : Nat) : Int) from (Int.natCast_pow P k).symm]
  by_cases h0 : k = 0
  · subst h0
    rw [Nat.pow_zero]; exact (show zl 1 ≤ 1 by decide)
  · exact Nat.le_succ_of_le (zl_nat (Nat.pow_lt_pow_left (show P < B by rw [B_def]; omega) h0))
section
variable (En : Ev)
theorem kdivmod (a b : Int) (ha : zl a ≤ 274877906944) (hb : zl b ≤ 274877906944) (h : b ≠ 0) : Fn Tryd.prog En 19 [zC a, zC b] (tupP [zC (a / b), zC (a % b), ex (.bool true)]) := by
  have := idivmod En (decide (a < 0)) _ (decide (b < 0)) _ (lm_digs a.natAbs) (lm_digs b.natAbs) ha hb (by rw [zv_C]; exact h)
  rwa [zv_C, zv_C] at this
theorem zl_mod {a b : Int} (h : b ≠ 0) : zl (a % b) ≤ zl b := zl_mono (by have := Int.emod_nonneg a h; have := Int.emod_lt a h; omega)
theorem vclo (pw r : Int) (s e : Int) (h1 : zl pw ≤ 274877906944) (h2 : zl r ≤ 274877906944) (h0 : pw ≠ 0) (hd : r % pw = 0) (hs : IntKind.i64.wrap (s + e) = s + e) :
    FnG Tryd.prog En 35 [.one (zC pw), .one (ex (.int .i64 e)), .ptr 1000 0, .ptr 1001 0] [(1000, zCells r), (1001, [ex (.int .i64 s)])] (.one (ex (.bool true))) [(1000, zCells (r / pw)), (1001, [ex (.int .i64 (s + e))])] := by
  have C1 := kdivmod En r pw h2 h1 h0
  rw [hd] at C1
  have C2 := ksign En 0 (by decide)
  rw [show sg3 0 = 0 from rfl] at C2
  refine fn_of_bodyG Tryd.func35 rfl Tryd.ntmps35 rfl ?_
  intro w0 h0 c
  repeat (first | refine js ?_ | refine jb ?_)
  refine jr ?_
  refine jT (ru_boxR rfl rfl rfl) ?_
  refine ja rfl ?_
  refine RG.nil (by kernel_rfl) ?_
  repeat (first | refine js ?_ | refine jb ?_)
  refine jr ?_
  refine jS (ru_loadR rfl rfl rfl rfl) ?_
  refine jS (ru_loadR rfl rfl rfl rfl) ?_
  refine jS (ru_call C1 ⟨rfl, rfl, trivial⟩) ?_
  refine jm rfl ?_
  refine jS (rt_extract rfl rfl) ?_
  refine jS (rt_extract rfl rfl) ?_
  refine jS (rt_extract rfl rfl) ?_
  refine jT (ru_alloc rfl rfl rfl) ?_
  refine jT (ru_alloc rfl rfl rfl) ?_
  refine jO (ru_storeR rfl rfl rfl rfl rfl rfl) ?_
  refine jO (ru_storeR rfl rfl rfl rfl rfl rfl) ?_
  refine ja rfl ?_
  refine RG.nil (by kernel_rfl) ?_
  repeat (first | refine js ?_ | refine jb ?_)
  refine jr ?_
  refine jS (ru_loadR rfl rfl rfl rfl) ?_
  refine jS (ru_call C2 ⟨rfl, trivial⟩) ?_
  refine jS (rt_bin_to rfl rfl (fun w => run_nei w _ _ _ _ _ _) (vbool (bneF (by first | assumption | omega)))) ?_
  refine RG.nil (by kernel_rfl) ?_
  repeat (first | refine js ?_ | refine jb ?_)
  refine WpD.condF rfl ?_
  repeat (first | refine js ?_ | refine jb ?_)
  refine WpD.skip ?_
  repeat (first | refine js ?_ | refine jb ?_)
  refine jr ?_
  refine jS (ru_loadR rfl rfl rfl rfl) ?_
  refine jO (ru_storeR rfl rfl rfl rfl rfl rfl) ?_
  refine RG.nil (by kernel_rfl) ?_
  repeat (first | refine js ?_ | refine jb ?_)
  refine jr ?_
  refine jS (ru_load1 rfl rfl rfl) ?_
  refine jm rfl ?_
  refine jS (rt_bin_to rfl rfl (fun w => run_addi w _ _ _ _ _ _) (vint hs)) ?_
  refine jO (ru_store1 rfl rfl rfl rfl rfl) ?_
  refine RG.nil (by kernel_rfl) ?_
  repeat (first | refine js ?_ | refine jb ?_)
  refine jr ?_
  refine ja rfl ?_
  refine RG.nil (by kernel_rfl) ?_
  repeat (first | refine js ?_ | refine jb ?_)
  refine WpD.ret ?_
  exact retG1 rfl rfl (PLe.refl _) trivial ⟨.inl ⟨_, rfl, PsLe.refl _⟩, .inl ⟨_, rfl, PsLe.refl _⟩, trivial⟩
theorem vclo_no (pw r : Int) (s e : Int) (h1 : zl pw ≤ 274877906944) (h2 : zl r ≤ 274877906944) (h0 : pw ≠ 0) (hd : r % pw ≠ 0) :
    FnG Tryd.prog En 35 [.one (zC pw), .one (ex (.int .i64 e)), .ptr 1000 0, .ptr 1001 0] [(1000, zCells r), (1001, [ex (.int .i64 s)])] (.one (ex (.bool false))) [(1000, zCells r), (1001, [ex (.int .i64 s)])] := by
  have C1 := kdivmod En r pw h2 h1 h0
  have C2 := ksign En (r % pw) (Nat.le_trans (zl_mod h0) h1)
  have hn := sg3_ne hd
  refine fn_of_bodyG Tryd.func35 rfl Tryd.ntmps35 rfl ?_
  intro w0 h0 c
  repeat (first | refine js ?_ | refine jb ?_)
  refine jr ?_
  refine jT (ru_boxR rfl rfl rfl) ?_
  refine ja rfl ?_
  refine RG.nil (by kernel_rfl) ?_
  repeat (first | refine js ?_ | refine jb ?_)
  refine jr ?_
  refine jS (ru_loadR rfl rfl rfl rfl) ?_
  refine jS (ru_loadR rfl rfl rfl rfl) ?_
  refine jS (ru_call C1 ⟨rfl, rfl, trivial⟩) ?_
  refine jm rfl ?_
  refine jS (rt_extract rfl rfl) ?_
  refine jS (rt_extract rfl rfl) ?_
  refine jS (rt_extract rfl rfl) ?_
  refine jT (ru_alloc rfl rfl rfl) ?_
  refine jT (ru_alloc rfl rfl rfl) ?_
  refine jO (ru_storeR rfl rfl rfl rfl rfl rfl) ?_
  refine jO (ru_storeR rfl rfl rfl rfl rfl rfl) ?_
  refine ja rfl ?_
  refine RG.nil (by kernel_rfl) ?_
  repeat (first | refine js ?_ | refine jb ?_)
  refine jr ?_
  refine jS (ru_loadR rfl rfl rfl rfl) ?_
  refine jS (ru_call C2 ⟨rfl, trivial⟩) ?_
  refine jS (rt_bin_to rfl rfl (fun w => run_nei w _ _ _ _ _ _) (vbool (bneT (by first | assumption | omega)))) ?_
  refine RG.nil (by kernel_rfl) ?_
  repeat (first | refine js ?_ | refine jb ?_)
  refine WpD.condT rfl ?_
  repeat (first | refine js ?_ | refine jb ?_)
  refine jr ?_
  refine ja rfl ?_
  refine RG.nil (by kernel_rfl) ?_
  repeat (first | refine js ?_ | refine jb ?_)
  refine WpD.ret ?_
  exact retG1 rfl rfl (PLe.refl _) trivial ⟨.inl ⟨_, rfl, PsLe.refl _⟩, .inl ⟨_, rfl, PsLe.refl _⟩, trivial⟩
/-- The powers by doubling. -/
def vdl (P : Nat) : Nat → List Pd := fun i => zCells ((P : Int) ^ 2 ^ i)
theorem vdl_len (P : Nat) (i : Nat) : (vdl P i).length = 2 := rfl
theorem vdl_sq (p : Int) (j : Nat) : p ^ 2 ^ j * p ^ 2 ^ j = p ^ 2 ^ (j + 1) := by rw [← Int.pow_add, Nat.pow_succ, Nat.mul_two]
theorem shl1 {j : Nat} (h : j ≤ 16) : IntKind.i64.wrap (1 * 2 ^ min ((j : Int).toNat) IntKind.i64.bits) = ((2 ^ j : Nat) : Int) := by
  have h2 : 2 ^ j ≤ 2 ^ 16 := Nat.pow_le_pow_right (by omega) h
  rw [show ((j : Int).toNat) = j from rfl, show min j IntKind.i64.bits = j from Nat.min_eq_left (show j ≤ 64 by omega), Int.one_mul, show (2 : Int) ^ j = ((2 ^ j : Nat) : Int) from (Int.natCast_pow 2 j).symm]
  generalize 2 ^ j = X at h2 ⊢
  exact w64 (by omega) (by omega)
theorem w64n {a b : Nat} (h : a + b ≤ 1000000) : IntKind.i64.wrap ((a : Int) + (b : Int)) = (a : Int) + (b : Int) := w64 (by omega) (by omega)
theorem two_pos' (j : Nat) : 1 ≤ 2 ^ j := Nat.one_le_two_pow
set_option maxHeartbeats 2000000 in
theorem ival (s : Bool) (l : List Nat) (P e : Nat) (u : Int) (hl : Lm l) (hlen : l.length ≤ 1000) (hP : isP P = true) (hx : zv s l = (P : Int) ^ e * u) (hu : ¬ (P : Int) ∣ u) :
    Fn Tryd.prog TabE 14 [zR s l, ex (.int .i64 (P : Int))] (tupP [ex (.int .i64 (e : Int)), zC u, ex (.int .i64 0)]) := by
  obtain ⟨P2, P3⟩ := isP_le hP
  have hp2 : (2 : Int) ≤ (P : Int) := by omega
  have hu0 : u ≠ 0 := by rintro rfl; exact hu ⟨0, by simp⟩
  have hx0 : zv s l ≠ 0 := by rw [hx]; exact Int.mul_ne_zero (ppow_ne hp2 e) hu0
  have hab : (zv s l).natAbs < B ^ l.length := by rw [zv_abs]; exact val_lt hl
  have he : e < 32000 := by have := val_le P2 hu0 hx hab; omega
  have hzl : ∀ m, m ≤ e → zl ((P : Int) ^ m * u) ≤ 1000 := fun m hm => by
    refine Nat.le_trans (zl_mono (b := zv s l) ?_) (Nat.le_trans (zl_zv s hl) hlen)
    rw [hx, psplit (P : Int) u (show e - m ≤ e by omega), show e - (e - m) = m by omega, Int.natAbs_mul ((P : Int) ^ (e - m))]
    exact Nat.le_mul_of_pos_left _ (Int.natAbs_pos.2 (ppow_ne hp2 _))
  have C1 := fis (P : Int)
  rw [show ((P : Int).toNat) = P from rfl, hP] at C1
  have C2 := isign TabE s l hl (by omega)
  have hsg := sg3_ne hx0
  have C3 := inormalize TabE s l hl (by omega)
  rw [hx] at C3
  have C4 := ksmall TabE (P : Int) (by omega) (by omega)
  have hz1 : zC (P : Int) = zC ((P : Int) ^ 2 ^ 0) := by rw [Nat.pow_zero, Int.pow_succ, Int.pow_zero, Int.one_mul]
  rw [hz1] at C4
  have hpz : ∀ j, 2 ^ j ≤ e + 1 → zl ((P : Int) ^ 2 ^ j) ≤ 40000 := fun j hj => Nat.le_trans (zl_ppow P3 _) (by omega)
  have hj16 : ∀ j, 2 ^ j ≤ e + 1 → j ≤ 14 := fun j hj => by
    rcases Nat.lt_or_ge 14 j with h | h
    · have : 2 ^ 15 ≤ 2 ^ j := Nat.pow_le_pow_right (by omega) (by omega)
      omega
    · exact h
  refine fn_of_body Tryd.func14 rfl Tryd.ntmps14 rfl ?_
  intro w0 h0
  repeat (first | refine js ?_ | refine jb ?_)
  refine jr ?_
  refine jT (ru_boxR rfl rfl rfl) ?_
  refine ja rfl ?_
  refine jT (ru_alloc rfl rfl rfl) ?_
  refine ja rfl ?_
  refine RG.nil (by kernel_rfl) ?_
  repeat (first | refine js ?_ | refine jb ?_)
  refine jr ?_
  refine jm rfl ?_
  refine jS (ru_call C1 ⟨rfl, trivial⟩) ?_
  refine jS (rt_un rfl (fun w => run_not w _)) ?_
  refine RG.nil (by kernel_rfl) ?_
  repeat (first | refine js ?_ | refine jb ?_)
  refine WpD.condF rfl ?_
  repeat (first | refine js ?_ | refine jb ?_)
  refine WpD.skip ?_
  repeat (first | refine js ?_ | refine jb ?_)
  refine jr ?_
  refine jS (ru_loadR rfl rfl rfl rfl) ?_
  refine jS (ru_call C2 ⟨rfl, trivial⟩) ?_
  refine jS (rt_bin_to rfl rfl (fun w => run_eqi w _ _ _ _ _ _) (vbool (beqF (by first | assumption | omega)))) ?_
  refine RG.nil (by kernel_rfl) ?_
  repeat (first | refine js ?_ | refine jb ?_)
  refine WpD.condF rfl ?_
  repeat (first | refine js ?_ | refine jb ?_)
  refine WpD.skip ?_
  repeat (first | refine js ?_ | refine jb ?_)
  refine jr ?_
  refine jS (ru_loadR rfl rfl rfl rfl) ?_
  refine jS (ru_call C3 ⟨rfl, trivial⟩) ?_
  refine jT (ru_alloc rfl rfl rfl) ?_
  refine jO (ru_storeR rfl rfl rfl rfl rfl rfl) ?_
  refine RG.nil (by kernel_rfl) ?_
  repeat (first | refine js ?_ | refine jb ?_)
  refine jr ?_
  refine jT (ru_alloc rfl rfl rfl) ?_
  refine jO (ru_store1 rfl rfl rfl rfl rfl) ?_
  refine RG.nil (by kernel_rfl) ?_
  repeat (first | refine js ?_ | refine jb ?_)
  refine jr ?_
  refine jS (ru_makeFunc (bs := [(7, 0), (8, 0)]) ⟨rfl, rfl, trivial⟩) ?_
  refine ja rfl ?_
  refine RG.nil (by kernel_rfl) ?_
  repeat (first | refine js ?_ | refine jb ?_)
  refine jr ?_
  refine jm rfl ?_
  refine jS (ru_call C4 ⟨rfl, trivial⟩) ?_
  refine RG.SW (LT.plain rfl (ru_buildA 526 (ps := [(_, _)]) ⟨rfl, Part.c rfl, trivial⟩ rfl rfl rfl rfl rfl rfl)) rfl ?_
  refine ja rfl ?_
  refine RG.nil (by kernel_rfl) ?_
  repeat (first | refine js ?_ | refine jb ?_)
  refine WpD.loop (α := {j : Nat // 2 ^ j ≤ e + 1}) (fun j => ⟨[(5, .ptr 5 0), (7, .ptr 7 0), (8, .ptr 8 0), (9, .clo 35 [(7, 0), (8, 0)]), (10, .app 510 2 (j.1 + 1))], [(5, [ex (.bool false), ex (.slice none 0 0)]), (7, zCells ((P : Int) ^ (e - (2 ^ j.1 - 1)) * u)), (8, [ex (.int .i64 ((2 ^ j.1 - 1 : Nat) : Int))]), (510, rows (vdl P) (j.1 + 1)), (760, [])]⟩) (fun j => 20 - j.1) ⟨0, by omega⟩ ?_ ?_
  · refine Sub.ren 510 526 rfl ?_ ?_ rfl
    · repeat (first | exact trivial | refine ⟨.inl ⟨⟨_, rfl, PLe.refl _⟩, trivial, trivial⟩, ?_⟩ | refine ⟨.inr ⟨_, _, rfl, .inl rfl, ⟨Option.some_ne_none _, Option.some_ne_none _⟩⟩, ?_⟩ | refine ⟨.inl ⟨⟨_, rfl, rfl⟩, Option.some_ne_none _, ⟨(by decide), (by decide)⟩⟩, ?_⟩ | refine ⟨.inl ⟨⟨_, rfl, rfl⟩, ⟨Option.some_ne_none _, Option.some_ne_none _⟩, ⟨(by decide), (by decide), (by decide), (by decide)⟩⟩, ?_⟩ | refine ⟨.inl ⟨⟨_, rfl, rfl⟩, clo_live (Option.some_ne_none _) (Option.some_ne_none _), clo_avoid (by decide) (by decide) (by decide) (by decide)⟩, ?_⟩ | refine ⟨.inr ⟨_, _, rfl, .inr ⟨(by omega), rfl⟩, Option.some_ne_none _⟩, ?_⟩)
    · repeat (first | exact trivial | refine ⟨.inr ⟨(by decide), .inr rfl⟩, ?_⟩ | refine ⟨.inl ⟨rfl, _, rfl, PsLe.refl _⟩, ?_⟩ | refine ⟨.inr ⟨(by decide), .inl ⟨(by decide), _, rfl, PsLe.refl _⟩⟩, ?_⟩)
  rintro ⟨j, hj⟩
  dsimp only at hj ⊢
  have hj14 := hj16 j hj
  have h1j := two_pos' j
  have hjl : j < j + 1 := by omega
  have hlenr := rows_len (vdl_len P) (j + 1)
  have hq : ((rows (vdl P) (j + 1)).drop (j * 2)).take 2 = zCells ((P : Int) ^ 2 ^ j) := rows_get (vdl_len P) hjl
  have hk2 : j * 2 + 2 ≤ (rows (vdl P) (j + 1)).length := by omega
  have e1 : IntKind.i64.wrap (((j + 1 : Nat) : Int) - 1) = (j : Int) := by rw [w64 (by omega) (by omega)]; omega
  have e2 := shl1 (j := j) (by omega)
  have hnn : (0 : Int) ≤ (j : Int) := by omega
  by_cases hdiv : 2 ^ j ≤ e - (2 ^ j - 1)
  · have hj' : 2 ^ (j + 1) ≤ e + 1 := by rw [Nat.pow_succ]; omega
    have hw : IntKind.i64.wrap (((2 ^ j - 1 : Nat) : Int) + ((2 ^ j : Nat) : Int)) = ((2 ^ j - 1 : Nat) : Int) + ((2 ^ j : Nat) : Int) := w64n (by omega)
    have Cc := vclo TabE ((P : Int) ^ 2 ^ j) ((P : Int) ^ (e - (2 ^ j - 1)) * u) ((2 ^ j - 1 : Nat) : Int) ((2 ^ j : Nat) : Int) (Nat.le_trans (hpz j hj) (by omega)) (Nat.le_trans (hzl _ (by omega)) (by omega)) (ppow_ne hp2 _) (pmod0 hdiv) hw
    rw [pquo hp2 hdiv, show e - (2 ^ j - 1) - 2 ^ j = e - (2 ^ (j + 1) - 1) by rw [Nat.pow_succ]; omega, show ((2 ^ j - 1 : Nat) : Int) + ((2 ^ j : Nat) : Int) = ((2 ^ (j + 1) - 1 : Nat) : Int) by rw [Nat.pow_succ]; omega] at Cc
    have Cm := kmul TabE ((P : Int) ^ 2 ^ j) ((P : Int) ^ 2 ^ j) (Nat.le_trans (hpz j hj) (by omega)) (Nat.le_trans (hpz j hj) (by omega))
    rw [vdl_sq] at Cm
    have hr : rows (vdl P) (j + 1) ++ zCells ((P : Int) ^ 2 ^ (j + 1)) = rows (vdl P) (j + 1 + 1) := (rows_succ (vdl P) (j + 1)).symm
    repeat (first | refine js ?_ | refine jb ?_)
    refine jr ?_
    refine jm rfl ?_
    refine jm rfl ?_
    refine jm rfl ?_
    refine jS (ru_lenA rfl CSlice.ok) ?_
    refine jS (rt_bin_to rfl rfl (fun w => run_subi w _ _ _ _ _ _) (vint e1)) ?_
    refine jS (ru_indexA rfl rfl hjl rfl) ?_
    refine jS (ru_loadRS rfl rfl (by first | assumption | omega) (by assumption)) ?_
    refine jm rfl ?_
    refine jS (ru_lenA rfl CSlice.ok) ?_
    refine jS (rt_bin_to rfl rfl (fun w => run_subi w _ _ _ _ _ _) (vint e1)) ?_
    refine jS (rt_bin_to rfl rfl (fun w => run_shli w _ _ _ _ _ _ _ (by first | decide | omega | assumption)) (vint e2)) ?_
    refine RG.SW (LT.plain rfl (ru_callC («as» := [.one _, .one _]) (cs := [.ptr 1000 0, .ptr 1001 0]) (fun i => cond (Nat.beq i 1000) 7 8) rfl Cc ⟨rfl, rfl, trivial⟩ ⟨rfl, Option.some_ne_none _, rfl, Option.some_ne_none _, trivial⟩ ⟨rfl, rfl, trivial⟩ rfl rfl rfl)) rfl ?_
    refine RG.nil (by kernel_rfl) ?_
    repeat (first | refine js ?_ | refine jb ?_)
    refine WpD.condT rfl ?_
    repeat (first | refine js ?_ | refine jb ?_)
    refine WpD.skip ?_
    repeat (first | refine js ?_ | refine jb ?_)
    refine jr ?_
    refine jm rfl ?_
    refine jm rfl ?_
    refine jS (ru_lenA rfl CSlice.ok) ?_
    refine jS (rt_bin_to rfl rfl (fun w => run_subi w _ _ _ _ _ _) (vint e1)) ?_
    refine jS (ru_indexA rfl rfl hjl rfl) ?_
    refine jS (ru_loadRS rfl rfl (by first | assumption | omega) (by assumption)) ?_
    refine jT (ru_alloc rfl rfl rfl) ?_
    refine jO (ru_storeR rfl rfl rfl rfl rfl rfl) ?_
    refine RG.nil (by kernel_rfl) ?_
    repeat (first | refine js ?_ | refine jb ?_)
    refine jr ?_
    refine jm rfl ?_
    refine jS (ru_loadR rfl rfl rfl rfl) ?_
    refine jS (ru_loadR rfl rfl rfl rfl) ?_
    refine jS (ru_call Cm ⟨rfl, rfl, trivial⟩) ?_
    refine jS (rc_buildR (ps := [(_, _)]) ⟨rfl, Part.c rfl, trivial⟩ rfl rfl rfl) ?_
    refine RG.SW (LT.plain rfl (ru_appendA 550 rfl rfl hlenr rfl (by omega) (by omega) rfl rfl rfl rfl rfl hr)) rfl ?_
    refine ja rfl ?_
    refine RG.nil (by kernel_rfl) ?_
    refine ⟨⟨j + 1, hj'⟩, ?_, by dsimp only; omega⟩
    refine Sub.ren 510 550 rfl ?_ ?_ rfl
    · repeat (first | exact trivial | refine ⟨.inl ⟨⟨_, rfl, PLe.refl _⟩, trivial, trivial⟩, ?_⟩ | refine ⟨.inr ⟨_, _, rfl, .inl rfl, ⟨Option.some_ne_none _, Option.some_ne_none _⟩⟩, ?_⟩ | refine ⟨.inl ⟨⟨_, rfl, rfl⟩, Option.some_ne_none _, ⟨(by decide), (by decide)⟩⟩, ?_⟩ | refine ⟨.inl ⟨⟨_, rfl, rfl⟩, ⟨Option.some_ne_none _, Option.some_ne_none _⟩, ⟨(by decide), (by decide), (by decide), (by decide)⟩⟩, ?_⟩ | refine ⟨.inl ⟨⟨_, rfl, rfl⟩, clo_live (Option.some_ne_none _) (Option.some_ne_none _), clo_avoid (by decide) (by decide) (by decide) (by decide)⟩, ?_⟩ | refine ⟨.inr ⟨_, _, rfl, .inr ⟨(by omega), rfl⟩, Option.some_ne_none _⟩, ?_⟩)
    · repeat (first | exact trivial | refine ⟨.inr ⟨(by decide), .inr rfl⟩, ?_⟩ | refine ⟨.inl ⟨rfl, _, rfl, PsLe.refl _⟩, ?_⟩ | refine ⟨.inr ⟨(by decide), .inl ⟨(by decide), _, rfl, PsLe.refl _⟩⟩, ?_⟩)
  · have Cc := vclo_no TabE ((P : Int) ^ 2 ^ j) ((P : Int) ^ (e - (2 ^ j - 1)) * u) ((2 ^ j - 1 : Nat) : Int) ((2 ^ j : Nat) : Int) (Nat.le_trans (hpz j hj) (by omega)) (Nat.le_trans (hzl _ (by omega)) (by omega)) (ppow_ne hp2 _) (pmod1 hp2 hu hdiv)
    have e3 : IntKind.i64.wrap (((j + 1 : Nat) : Int) - 2) = (j : Int) - 1 := by rw [w64 (by omega) (by omega)]; omega
    repeat (first | refine js ?_ | refine jb ?_)
    refine jr ?_
    refine jm rfl ?_
    refine jm rfl ?_
    refine jm rfl ?_
    refine jS (ru_lenA rfl CSlice.ok) ?_
    refine jS (rt_bin_to rfl rfl (fun w => run_subi w _ _ _ _ _ _) (vint e1)) ?_
    refine jS (ru_indexA rfl rfl hjl rfl) ?_
    refine jS (ru_loadRS rfl rfl (by first | assumption | omega) (by assumption)) ?_
    refine jm rfl ?_
    refine jS (ru_lenA rfl CSlice.ok) ?_
    refine jS (rt_bin_to rfl rfl (fun w => run_subi w _ _ _ _ _ _) (vint e1)) ?_
    refine jS (rt_bin_to rfl rfl (fun w => run_shli w _ _ _ _ _ _ _ (by first | decide | omega | assumption)) (vint e2)) ?_
    refine RG.SW (LT.plain rfl (ru_callC («as» := [.one _, .one _]) (cs := [.ptr 1000 0, .ptr 1001 0]) (fun i => cond (Nat.beq i 1000) 7 8) rfl Cc ⟨rfl, rfl, trivial⟩ ⟨rfl, Option.some_ne_none _, rfl, Option.some_ne_none _, trivial⟩ ⟨rfl, rfl, trivial⟩ rfl rfl rfl)) rfl ?_
    refine RG.nil (by kernel_rfl) ?_
    repeat (first | refine js ?_ | refine jb ?_)
    refine WpD.condF rfl ?_
    repeat (first | refine js ?_ | refine jb ?_)
    refine WpD.exit ?_
    repeat (first | refine js ?_ | refine jb ?_)
    refine jr ?_
    refine jm rfl ?_
    refine jS (ru_lenA rfl CSlice.ok) ?_
    refine jS (rt_bin_to rfl rfl (fun w => run_subi w _ _ _ _ _ _) (vint e3)) ?_
    refine ja rfl ?_
    refine RG.nil (by kernel_rfl) ?_
    repeat (first | refine js ?_ | refine jb ?_)
    refine WpD.loop (α := {q : Nat × Nat // q.1 ≤ j ∧ q.2 ≤ e ∧ e - q.2 < 2 ^ q.1}) (fun q => ⟨[(5, .ptr 5 0), (7, .ptr 7 0), (8, .ptr 8 0), (9, .clo 35 [(7, 0), (8, 0)]), (10, .app 510 2 (j + 1)), (12, .one (ex (.int .i64 ((q.1.1 : Int) - 1))))], [(5, [ex (.bool false), ex (.slice none 0 0)]), (7, zCells ((P : Int) ^ (e - q.1.2) * u)), (8, [ex (.int .i64 (q.1.2 : Int))]), (510, rows (vdl P) (j + 1)), (760, [])]⟩) (fun q => q.1.1) ⟨(j, 2 ^ j - 1), Nat.le_refl _, by dsimp only; omega, by dsimp only; omega⟩ ?_ ?_
    · refine Sub.mk ?_ ?_
      · repeat (first | exact trivial | refine jv rfl ?_ | refine jw rfl (js0 rfl) ?_ | refine jw rfl ⟨js0 rfl, js0 rfl⟩ ?_ | refine jx rfl ⟨js0 rfl, js0 rfl⟩ ?_ | refine jw rfl (clo_live (js0 rfl) (js0 rfl)) ?_ | refine ⟨⟨_, rfl, PLe.refl _⟩, trivial, ?_⟩)
      · repeat (first | exact trivial | refine jz ?_ | refine jy rfl ?_)
    rintro ⟨⟨t, m⟩, ht, hm, hlt⟩
    dsimp only at ht hm hlt ⊢
    cases t with
    | zero =>
      have : m = e := by rw [Nat.pow_zero] at hlt; omega
      subst this
      rw [Nat.sub_self, Int.pow_zero, Int.one_mul]
      repeat (first | refine js ?_ | refine jb ?_)
      refine jr ?_
      refine jm rfl ?_
      refine jS (rt_bin_to rfl rfl (fun w => run_gei w _ _ _ _ _ _) (vbool (decide_eq_false (by first | assumption | omega)))) ?_
      refine RG.nil (by kernel_rfl) ?_
      repeat (first | refine js ?_ | refine jb ?_)
      refine WpD.condF rfl ?_
      repeat (first | refine js ?_ | refine jb ?_)
      refine WpD.exit ?_
      repeat (first | refine js ?_ | refine jb ?_)
      refine jr ?_
      refine jS (ru_load1 rfl rfl rfl) ?_
      refine jS (ru_loadR rfl rfl rfl rfl) ?_
      refine ja rfl ?_
      refine jO (ru_storeR rfl rfl rfl rfl rfl rfl) ?_
      refine ja rfl ?_
      refine RG.nil (by kernel_rfl) ?_
      repeat (first | refine js ?_ | refine jb ?_)
      refine WpD.ret ?_
      exact ret3 rfl (.tmp rfl) (.cell rfl rfl CRow.ok rfl) (.tmp rfl) (PLe.refl _)
    | succ t =>
      rw [show ((t + 1 : Nat) : Int) - 1 = (t : Int) by omega]
      have htl : t < j + 1 := by omega
      have h1t := two_pos' t
      have h2t : 2 ^ t ≤ e + 1 := Nat.le_trans (Nat.pow_le_pow_right (by omega) (show t ≤ j by omega)) hj
      have hqt : ((rows (vdl P) (j + 1)).drop (t * 2)).take 2 = zCells ((P : Int) ^ 2 ^ t) := rows_get (vdl_len P) htl
      have hkt : t * 2 + 2 ≤ (rows (vdl P) (j + 1)).length := by omega
      have f2 := shl1 (j := t) (by omega)
      have hnt : (0 : Int) ≤ (t : Int) := by omega
      have f3 : IntKind.i64.wrap ((t : Int) - 1) = (t : Int) - 1 := w64 (by omega) (by omega)
      by_cases hdt : 2 ^ t ≤ e - m
      · have hw : IntKind.i64.wrap ((m : Int) + ((2 ^ t : Nat) : Int)) = (m : Int) + ((2 ^ t : Nat) : Int) := w64n (by omega)
        have Cd := vclo TabE ((P : Int) ^ 2 ^ t) ((P : Int) ^ (e - m) * u) (m : Int) ((2 ^ t : Nat) : Int) (Nat.le_trans (hpz t h2t) (by omega)) (Nat.le_trans (hzl _ (by omega)) (by omega)) (ppow_ne hp2 _) (pmod0 hdt) hw
        rw [pquo hp2 hdt, show e - m - 2 ^ t = e - (m + 2 ^ t) by omega, show (m : Int) + ((2 ^ t : Nat) : Int) = ((m + 2 ^ t : Nat) : Int) by omega] at Cd
        repeat (first | refine js ?_ | refine jb ?_)
        refine jr ?_
        refine jm rfl ?_
        refine jS (rt_bin_to rfl rfl (fun w => run_gei w _ _ _ _ _ _) (vbool (decide_eq_true (by first | assumption | omega)))) ?_
        refine RG.nil (by kernel_rfl) ?_
        repeat (first | refine js ?_ | refine jb ?_)
        refine WpD.condT rfl ?_
        repeat (first | refine js ?_ | refine jb ?_)
        refine WpD.skip ?_
        repeat (first | refine js ?_ | refine jb ?_)
        refine jr ?_
        refine jm rfl ?_
        refine jm rfl ?_
        refine jm rfl ?_
        refine jS (ru_indexA rfl rfl htl rfl) ?_
        refine jS (ru_loadRS rfl rfl (by first | assumption | omega) (by assumption)) ?_
        refine jm rfl ?_
        refine jS (rt_bin_to rfl rfl (fun w => run_shli w _ _ _ _ _ _ _ (by first | decide | omega | assumption)) (vint f2)) ?_
        refine RG.SW (LT.plain rfl (ru_callC («as» := [.one _, .one _]) (cs := [.ptr 1000 0, .ptr 1001 0]) (fun i => cond (Nat.beq i 1000) 7 8) rfl Cd ⟨rfl, rfl, trivial⟩ ⟨rfl, Option.some_ne_none _, rfl, Option.some_ne_none _, trivial⟩ ⟨rfl, rfl, trivial⟩ rfl rfl rfl)) rfl ?_
        refine RG.nil (by kernel_rfl) ?_
        repeat (first | refine js ?_ | refine jb ?_)
        refine jr ?_
        refine jm rfl ?_
        refine jS (rt_bin_to rfl rfl (fun w => run_subi w _ _ _ _ _ _) (vint f3)) ?_
        refine ja rfl ?_
        refine RG.nil (by kernel_rfl) ?_
        refine ⟨⟨(t, m + 2 ^ t), by dsimp only; omega, by dsimp only; omega, by dsimp only; rw [Nat.pow_succ] at hlt; omega⟩, ?_, by dsimp only; omega⟩
        refine Sub.mk ?_ ?_
        · repeat (first | exact trivial | refine jv rfl ?_ | refine jw rfl (js0 rfl) ?_ | refine jw rfl ⟨js0 rfl, js0 rfl⟩ ?_ | refine jx rfl ⟨js0 rfl, js0 rfl⟩ ?_ | refine jw rfl (clo_live (js0 rfl) (js0 rfl)) ?_ | refine ⟨⟨_, rfl, PLe.refl _⟩, trivial, ?_⟩)
        · repeat (first | exact trivial | refine jz ?_ | refine jy rfl ?_)
      · have Cd := vclo_no TabE ((P : Int) ^ 2 ^ t) ((P : Int) ^ (e - m) * u) (m : Int) ((2 ^ t : Nat) : Int) (Nat.le_trans (hpz t h2t) (by omega)) (Nat.le_trans (hzl _ (by omega)) (by omega)) (ppow_ne hp2 _) (pmod1 hp2 hu hdt)
        repeat (first | refine js ?_ | refine jb ?_)
        refine jr ?_
        refine jm rfl ?_
        refine jS (rt_bin_to rfl rfl (fun w => run_gei w _ _ _ _ _ _) (vbool (decide_eq_true (by first | assumption | omega)))) ?_
        refine RG.nil (by kernel_rfl) ?_
        repeat (first | refine js ?_ | refine jb ?_)
        refine WpD.condT rfl ?_
        repeat (first | refine js ?_ | refine jb ?_)
        refine WpD.skip ?_
        repeat (first | refine js ?_ | refine jb ?_)
        refine jr ?_
        refine jm rfl ?_
        refine jm rfl ?_
        refine jm rfl ?_
        refine jS (ru_indexA rfl rfl htl rfl) ?_
        refine jS (ru_loadRS rfl rfl (by first | assumption | omega) (by assumption)) ?_
        refine jm rfl ?_
        refine jS (rt_bin_to rfl rfl (fun w => run_shli w _ _ _ _ _ _ _ (by first | decide | omega | assumption)) (vint f2)) ?_
        refine RG.SW (LT.plain rfl (ru_callC («as» := [.one _, .one _]) (cs := [.ptr 1000 0, .ptr 1001 0]) (fun i => cond (Nat.beq i 1000) 7 8) rfl Cd ⟨rfl, rfl, trivial⟩ ⟨rfl, Option.some_ne_none _, rfl, Option.some_ne_none _, trivial⟩ ⟨rfl, rfl, trivial⟩ rfl rfl rfl)) rfl ?_
        refine RG.nil (by kernel_rfl) ?_
        repeat (first | refine js ?_ | refine jb ?_)
        refine jr ?_
        refine jm rfl ?_
        refine jS (rt_bin_to rfl rfl (fun w => run_subi w _ _ _ _ _ _) (vint f3)) ?_
        refine ja rfl ?_
        refine RG.nil (by kernel_rfl) ?_
        refine ⟨⟨(t, m), by dsimp only; omega, by dsimp only; omega, by dsimp only; omega⟩, ?_, by dsimp only; omega⟩
        refine Sub.mk ?_ ?_
        · repeat (first | exact trivial | refine jv rfl ?_ | refine jw rfl (js0 rfl) ?_ | refine jw rfl ⟨js0 rfl, js0 rfl⟩ ?_ | refine jx rfl ⟨js0 rfl, js0 rfl⟩ ?_ | refine jw rfl (clo_live (js0 rfl) (js0 rfl)) ?_ | refine ⟨⟨_, rfl, PLe.refl _⟩, trivial, ?_⟩)
        · repeat (first | exact trivial | refine jz ?_ | refine jy rfl ?_)
/-- The Int that is all zeros. -/
def zero2 : Pd := aggP [ex (.bool false), ex (.slice none 0 0)]
theorem ival_np (s : Bool) (l : List Nat) (p : Int) (hP : isP p.toNat = false) :
    Fn Tryd.prog TabE 14 [zR s l, ex (.int .i64 p)] (tupP [ex (.int .i64 0), zero2, ex (.int .i64 20)]) := by
  have C1 := fis p
  rw [hP] at C1
  refine fn_of_body Tryd.func14 rfl Tryd.ntmps14 rfl ?_
  intro w0 h0
  repeat (first | refine js ?_ | refine jb ?_)
  refine jr ?_
  refine jT (ru_boxR rfl rfl rfl) ?_
  refine ja rfl ?_
  refine jT (ru_alloc rfl rfl rfl) ?_
  refine ja rfl ?_
  refine RG.nil (by kernel_rfl) ?_
  repeat (first | refine js ?_ | refine jb ?_)
  refine jr ?_
  refine jm rfl ?_
  refine jS (ru_call C1 ⟨rfl, trivial⟩) ?_
  refine jS (rt_un rfl (fun w => run_not w _)) ?_
  refine RG.nil (by kernel_rfl) ?_
  repeat (first | refine js ?_ | refine jb ?_)
  refine WpD.condT rfl ?_
  repeat (first | refine js ?_ | refine jb ?_)
  refine jr ?_
  refine jS (ru_build (ps := []) trivial rfl) ?_
  refine ja rfl ?_
  refine jO (ru_storeR rfl rfl rfl rfl rfl rfl) ?_
  refine ja rfl ?_
  refine RG.nil (by kernel_rfl) ?_
  repeat (first | refine js ?_ | refine jb ?_)
  refine WpD.ret ?_
  exact ret3 rfl (.tmp rfl) (.cell rfl rfl CRow.ok rfl) (.tmp rfl) (PLe.refl _)
theorem ival_0 (s : Bool) (l : List Nat) (p : Int) (hl : Lm l) (hlen : l.length ≤ 1000) (hP : isP p.toNat = true) (h0 : zv s l = 0) :
    Fn Tryd.prog TabE 14 [zR s l, ex (.int .i64 p)] (tupP [ex (.int .i64 0), zero2, ex (.int .i64 1)]) := by
  have C1 := fis p
  rw [hP] at C1
  have C2 := isign TabE s l hl (by omega)
  rw [h0, show sg3 0 = 0 from rfl] at C2
  refine fn_of_body Tryd.func14 rfl Tryd.ntmps14 rfl ?_
  intro w0 h0
  repeat (first | refine js ?_ | refine jb ?_)
  refine jr ?_
  refine jT (ru_boxR rfl rfl rfl) ?_
  refine ja rfl ?_
  refine jT (ru_alloc rfl rfl rfl) ?_
  refine ja rfl ?_
  refine RG.nil (by kernel_rfl) ?_
  repeat (first | refine js ?_ | refine jb ?_)
  refine jr ?_
  refine jm rfl ?_
  refine jS (ru_call C1 ⟨rfl, trivial⟩) ?_
  refine jS (rt_un rfl (fun w => run_not w _)) ?_
  refine RG.nil (by kernel_rfl) ?_
  repeat (first | refine js ?_ | refine jb ?_)
  refine WpD.condF rfl ?_
  repeat (first | refine js ?_ | refine jb ?_)
  refine WpD.skip ?_
  repeat (first | refine js ?_ | refine jb ?_)
  refine jr ?_
  refine jS (ru_loadR rfl rfl rfl rfl) ?_
  refine jS (ru_call C2 ⟨rfl, trivial⟩) ?_
  refine jS (rt_bin_to rfl rfl (fun w => run_eqi w _ _ _ _ _ _) (vbool (beqT (by first | assumption | omega)))) ?_
  refine RG.nil (by kernel_rfl) ?_
  repeat (first | refine js ?_ | refine jb ?_)
  refine WpD.condT rfl ?_
  repeat (first | refine js ?_ | refine jb ?_)
  refine jr ?_
  refine jS (ru_build (ps := []) trivial rfl) ?_
  refine ja rfl ?_
  refine jO (ru_storeR rfl rfl rfl rfl rfl rfl) ?_
  refine ja rfl ?_
  refine RG.nil (by kernel_rfl) ?_
  repeat (first | refine js ?_ | refine jb ?_)
  refine WpD.ret ?_
  exact ret3 rfl (.tmp rfl) (.cell rfl rfl CRow.ok rfl) (.tmp rfl) (PLe.refl _)
/-! The reference. -/
theorem zdivides (a b : Int) (ha : zl a ≤ 536870912) (hb : zl b ≤ 536870912) (h : a ≠ 0) : Fn Tryd.prog En 38 [zC a, zC b] (ex (.bool (sg3 (b % a) == 0))) := by
  have C1 := csign En a (show zl a ≤ _ by omega)
  have hn := sg3_ne h
  have C2 := crem En b a hb ha h
  have C3 := csign En (b % a) (show zl (b % a) ≤ _ from Nat.le_trans (zl_mod h) (by omega))
  refine fn_of_body Tryd.func38 rfl Tryd.ntmps38 rfl ?_
  intro w0 h0
  repeat (first | refine js ?_ | refine jb ?_)
  refine jr ?_
  refine jT (ru_boxR rfl rfl rfl) ?_
  refine jT (ru_boxR rfl rfl rfl) ?_
  refine ja rfl ?_
  refine RG.nil (by kernel_rfl) ?_
  repeat (first | refine js ?_ | refine jb ?_)
  refine jr ?_
  refine jS (ru_loadR rfl rfl rfl rfl) ?_
  refine jS (ru_call C1 ⟨rfl, trivial⟩) ?_
  refine jS (rt_bin_to rfl rfl (fun w => run_eqi w _ _ _ _ _ _) (vbool (beqF (by first | assumption | omega)))) ?_
  refine RG.nil (by kernel_rfl) ?_
  repeat (first | refine js ?_ | refine jb ?_)
  refine WpD.condF rfl ?_
  repeat (first | refine js ?_ | refine jb ?_)
  refine WpD.skip ?_
  repeat (first | refine js ?_ | refine jb ?_)
  refine jr ?_
  refine jS (ru_loadR rfl rfl rfl rfl) ?_
  refine jS (ru_loadR rfl rfl rfl rfl) ?_
  refine jS (ru_call C2 ⟨rfl, rfl, trivial⟩) ?_
  refine jS (ru_call C3 ⟨rfl, trivial⟩) ?_
  refine jS (rt_bin rfl rfl (fun w => run_eqi w _ _ _ _ _ _)) ?_
  refine ja rfl ?_
  refine RG.nil (by kernel_rfl) ?_
  repeat (first | refine js ?_ | refine jb ?_)
  refine WpD.ret ?_
  exact ret1 rfl (.tmp rfl) (PLe.refl _)
theorem zquoC (a b : Int) (ha : zl a ≤ 536870912) (hb : zl b ≤ 536870912) (h : b ≠ 0) : Fn Tryd.prog En 40 [zC a, zC b] (zC (a / b)) := by
  have := zquo En (decide (a < 0)) _ (decide (b < 0)) _ ha hb (lm_digs a.natAbs) (lm_digs b.natAbs) (by rw [zv_C]; exact h)
  rwa [zv_C, zv_C] at this
set_option maxHeartbeats 1000000 in
theorem fval (s : Bool) (l : List Nat) (P e : Nat) (u : Int) (hl : Lm l) (hlen : l.length ≤ 1000) (hP : isP P = true) (hx : zv s l = (P : Int) ^ e * u) (hu : ¬ (P : Int) ∣ u) :
    Fn Tryd.prog En 15 [zR s l, ex (.int .i64 (P : Int))] (tupP [ex (.int .i64 (e : Int)), zC u, ex (.int .i64 0)]) := by
  obtain ⟨P2, P3⟩ := isP_le hP
  have hp2 : (2 : Int) ≤ (P : Int) := by omega
  have hu0 : u ≠ 0 := by rintro rfl; exact hu ⟨0, by simp⟩
  have hx0 : zv s l ≠ 0 := by rw [hx]; exact Int.mul_ne_zero (ppow_ne hp2 e) hu0
  have hab : (zv s l).natAbs < B ^ l.length := by rw [zv_abs]; exact val_lt hl
  have he : e < 32000 := by have := val_le P2 hu0 hx hab; omega
  have hzl : ∀ m, m ≤ e → zl ((P : Int) ^ m * u) ≤ 1000 := fun m hm => by
    refine Nat.le_trans (zl_mono (b := zv s l) ?_) (Nat.le_trans (zl_zv s hl) hlen)
    rw [hx, psplit (P : Int) u (show e - m ≤ e by omega), show e - (e - m) = m by omega, Int.natAbs_mul ((P : Int) ^ (e - m))]
    exact Nat.le_mul_of_pos_left _ (Int.natAbs_pos.2 (ppow_ne hp2 _))
  have C1 := fris En (P : Int)
  rw [show ((P : Int).toNat) = P from rfl, hP] at C1
  have C2 := fsign En s l (by omega)
  have hsg := sg3_ne hx0
  have C3 := znorm En s l (by omega)
  rw [hx] at C3
  have C4 := fsmall En (P : Int) (by omega) (by omega)
  have zP : zl (P : Int) ≤ 2 := zl_small (by omega) (by omega)
  have p1 : (P : Int) ^ 1 = (P : Int) := by rw [Int.pow_succ, Int.pow_zero, Int.one_mul]
  refine fn_of_body Tryd.func15 rfl Tryd.ntmps15 rfl ?_
  intro w0 h0
  repeat (first | refine js ?_ | refine jb ?_)
  refine jr ?_
  refine jT (ru_boxR rfl rfl rfl) ?_
  refine ja rfl ?_
  refine jT (ru_alloc rfl rfl rfl) ?_
  refine ja rfl ?_
  refine RG.nil (by kernel_rfl) ?_
  repeat (first | refine js ?_ | refine jb ?_)
  refine jr ?_
  refine jm rfl ?_
  refine jS (ru_call C1 ⟨rfl, trivial⟩) ?_
  refine jS (rt_un rfl (fun w => run_not w _)) ?_
  refine RG.nil (by kernel_rfl) ?_
  repeat (first | refine js ?_ | refine jb ?_)
  refine WpD.condF rfl ?_
  repeat (first | refine js ?_ | refine jb ?_)
  refine WpD.skip ?_
  repeat (first | refine js ?_ | refine jb ?_)
  refine jr ?_
  refine jS (ru_loadR rfl rfl rfl rfl) ?_
  refine jS (ru_call C2 ⟨rfl, trivial⟩) ?_
  refine jS (rt_bin_to rfl rfl (fun w => run_eqi w _ _ _ _ _ _) (vbool (beqF (by first | assumption | omega)))) ?_
  refine RG.nil (by kernel_rfl) ?_
  repeat (first | refine js ?_ | refine jb ?_)
  refine WpD.condF rfl ?_
  repeat (first | refine js ?_ | refine jb ?_)
  refine WpD.skip ?_
  repeat (first | refine js ?_ | refine jb ?_)
  refine jr ?_
  refine ja rfl ?_
  refine RG.nil (by kernel_rfl) ?_
  repeat (first | refine js ?_ | refine jb ?_)
  refine jr ?_
  refine jS (ru_loadR rfl rfl rfl rfl) ?_
  refine jS (ru_call C3 ⟨rfl, trivial⟩) ?_
  refine jT (ru_alloc rfl rfl rfl) ?_
  refine jO (ru_storeR rfl rfl rfl rfl rfl rfl) ?_
  refine RG.nil (by kernel_rfl) ?_
  repeat (first | refine js ?_ | refine jb ?_)
  refine WpD.loop (α := {i : Nat // i ≤ e}) (fun i => ⟨[(1, .one (ex (.int .i64 (P : Int)))), (5, .ptr 5 0), (7, .one (ex (.int .i64 (i.1 : Int)))), (8, .ptr 8 0)], [(5, [ex (.bool false), ex (.slice none 0 0)]), (8, zCells ((P : Int) ^ (e - i.1) * u))]⟩) (fun i => e - i.1) ⟨0, Nat.zero_le _⟩ ?_ ?_
  · refine Sub.mk ?_ ?_
    · repeat (first | exact trivial | refine jv rfl ?_ | refine jw rfl (js0 rfl) ?_ | refine jw rfl ⟨js0 rfl, js0 rfl⟩ ?_ | refine jx rfl ⟨js0 rfl, js0 rfl⟩ ?_ | refine jw rfl (clo_live (js0 rfl) (js0 rfl)) ?_ | refine ⟨⟨_, rfl, PLe.refl _⟩, trivial, ?_⟩)
    · repeat (first | exact trivial | refine jz ?_ | refine jy rfl ?_)
  rintro ⟨i, hi⟩
  dsimp only at hi ⊢
  have C5 := zdivides En (P : Int) ((P : Int) ^ (e - i) * u) (by omega) (Nat.le_trans (hzl _ (by omega)) (by omega)) (by omega)
  by_cases hlt : i < e
  · have hm0 : (P : Int) ^ (e - i) * u % (P : Int) = 0 := by have := pmod0 (p := (P : Int)) (u := u) (k := 1) (m := e - i) (by omega); rwa [p1] at this
    rw [hm0, show (sg3 0 == 0) = true from rfl] at C5
    have C6 := zquoC En ((P : Int) ^ (e - i) * u) (P : Int) (Nat.le_trans (hzl _ (by omega)) (by omega)) (by omega) (by omega)
    have hqq : (P : Int) ^ (e - i) * u / (P : Int) = (P : Int) ^ (e - (i + 1)) * u := by have := pquo (u := u) hp2 (k := 1) (m := e - i) (by omega); rwa [p1, show e - i - 1 = e - (i + 1) by omega] at this
    rw [hqq] at C6
    have e3 : IntKind.i64.wrap ((i : Int) + 1) = ((i + 1 : Nat) : Int) := by rw [w64 (by omega) (by omega)]; rfl
    repeat (first | refine js ?_ | refine jb ?_)
    refine jr ?_
    refine jm rfl ?_
    refine jS (ru_call C4 ⟨rfl, trivial⟩) ?_
    refine jS (ru_loadR rfl rfl rfl rfl) ?_
    refine jS (ru_call C5 ⟨rfl, rfl, trivial⟩) ?_
    refine RG.nil (by kernel_rfl) ?_
    repeat (first | refine js ?_ | refine jb ?_)
    refine WpD.condT rfl ?_
    repeat (first | refine js ?_ | refine jb ?_)
    refine WpD.skip ?_
    repeat (first | refine js ?_ | refine jb ?_)
    refine jr ?_
    refine jS (ru_loadR rfl rfl rfl rfl) ?_
    refine jm rfl ?_
    refine jS (ru_call C4 ⟨rfl, trivial⟩) ?_
    refine jS (ru_call C6 ⟨rfl, rfl, trivial⟩) ?_
    refine jO (ru_storeR rfl rfl rfl rfl rfl rfl) ?_
    refine RG.nil (by kernel_rfl) ?_
    repeat (first | refine js ?_ | refine jb ?_)
    refine jr ?_
    refine jm rfl ?_
    refine jS (rt_bin_to rfl rfl (fun w => run_addi w _ _ _ _ _ _) (vint e3)) ?_
    refine ja rfl ?_
    refine RG.nil (by kernel_rfl) ?_
    refine ⟨⟨i + 1, by omega⟩, ?_, by dsimp only; omega⟩
    refine Sub.mk ?_ ?_
    · repeat (first | exact trivial | refine jv rfl ?_ | refine jw rfl (js0 rfl) ?_ | refine jw rfl ⟨js0 rfl, js0 rfl⟩ ?_ | refine jx rfl ⟨js0 rfl, js0 rfl⟩ ?_ | refine jw rfl (clo_live (js0 rfl) (js0 rfl)) ?_ | refine ⟨⟨_, rfl, PLe.refl _⟩, trivial, ?_⟩)
    · repeat (first | exact trivial | refine jz ?_ | refine jy rfl ?_)
  · have : i = e := by omega
    subst this
    have hm1 : (P : Int) ^ (i - i) * u % (P : Int) ≠ 0 := by have := pmod1 hp2 hu (k := 1) (m := i - i) (by omega); rwa [p1] at this
    rw [show (sg3 ((P : Int) ^ (i - i) * u % (P : Int)) == 0) = false by rw [beq_eq_false_iff_ne]; exact sg3_ne hm1] at C5
    rw [Nat.sub_self, Int.pow_zero, Int.one_mul] at C5 ⊢
    repeat (first | refine js ?_ | refine jb ?_)
    refine jr ?_
    refine jm rfl ?_
    refine jS (ru_call C4 ⟨rfl, trivial⟩) ?_
    refine jS (ru_loadR rfl rfl rfl rfl) ?_
    refine jS (ru_call C5 ⟨rfl, rfl, trivial⟩) ?_
    refine RG.nil (by kernel_rfl) ?_
    repeat (first | refine js ?_ | refine jb ?_)
    refine WpD.condF rfl ?_
    repeat (first | refine js ?_ | refine jb ?_)
    refine WpD.exit ?_
    repeat (first | refine js ?_ | refine jb ?_)
    refine jr ?_
    refine jm rfl ?_
    refine jS (ru_loadR rfl rfl rfl rfl) ?_
    refine ja rfl ?_
    refine jO (ru_storeR rfl rfl rfl rfl rfl rfl) ?_
    refine ja rfl ?_
    refine RG.nil (by kernel_rfl) ?_
    repeat (first | refine js ?_ | refine jb ?_)
    refine WpD.ret ?_
    exact ret3 rfl (.tmp rfl) (.cell rfl rfl CRow.ok rfl) (.tmp rfl) (PLe.refl _)
theorem fval_np (s : Bool) (l : List Nat) (p : Int) (hP : isP p.toNat = false) :
    Fn Tryd.prog En 15 [zR s l, ex (.int .i64 p)] (tupP [ex (.int .i64 0), zero2, ex (.int .i64 20)]) := by
  have C1 := fris En p
  rw [hP] at C1
  refine fn_of_body Tryd.func15 rfl Tryd.ntmps15 rfl ?_
  intro w0 h0
  repeat (first | refine js ?_ | refine jb ?_)
  refine jr ?_
  refine jT (ru_boxR rfl rfl rfl) ?_
  refine ja rfl ?_
  refine jT (ru_alloc rfl rfl rfl) ?_
  refine ja rfl ?_
  refine RG.nil (by kernel_rfl) ?_
  repeat (first | refine js ?_ | refine jb ?_)
  refine jr ?_
  refine jm rfl ?_
  refine jS (ru_call C1 ⟨rfl, trivial⟩) ?_
  refine jS (rt_un rfl (fun w => run_not w _)) ?_
  refine RG.nil (by kernel_rfl) ?_
  repeat (first | refine js ?_ | refine jb ?_)
  refine WpD.condT rfl ?_
  repeat (first | refine js ?_ | refine jb ?_)
  refine jr ?_
  refine jS (ru_build (ps := []) trivial rfl) ?_
  refine ja rfl ?_
  refine jO (ru_storeR rfl rfl rfl rfl rfl rfl) ?_
  refine ja rfl ?_
  refine RG.nil (by kernel_rfl) ?_
  repeat (first | refine js ?_ | refine jb ?_)
  refine WpD.ret ?_
  exact ret3 rfl (.tmp rfl) (.cell rfl rfl CRow.ok rfl) (.tmp rfl) (PLe.refl _)
theorem fval_0 (s : Bool) (l : List Nat) (p : Int) (hlen : l.length ≤ 1000) (hP : isP p.toNat = true) (h0 : zv s l = 0) :
    Fn Tryd.prog En 15 [zR s l, ex (.int .i64 p)] (tupP [ex (.int .i64 0), zero2, ex (.int .i64 1)]) := by
  have C1 := fris En p
  rw [hP] at C1
  have C2 := fsign En s l (by omega)
  rw [h0, show sg3 0 = 0 from rfl] at C2
  refine fn_of_body Tryd.func15 rfl Tryd.ntmps15 rfl ?_
  intro w0 h0
  repeat (first | refine js ?_ | refine jb ?_)
  refine jr ?_
  refine jT (ru_boxR rfl rfl rfl) ?_
  refine ja rfl ?_
  refine jT (ru_alloc rfl rfl rfl) ?_
  refine ja rfl ?_
  refine RG.nil (by kernel_rfl) ?_
  repeat (first | refine js ?_ | refine jb ?_)
  refine jr ?_
  refine jm rfl ?_
  refine jS (ru_call C1 ⟨rfl, trivial⟩) ?_
  refine jS (rt_un rfl (fun w => run_not w _)) ?_
  refine RG.nil (by kernel_rfl) ?_
  repeat (first | refine js ?_ | refine jb ?_)
  refine WpD.condF rfl ?_
  repeat (first | refine js ?_ | refine jb ?_)
  refine WpD.skip ?_
  repeat (first | refine js ?_ | refine jb ?_)
  refine jr ?_
  refine jS (ru_loadR rfl rfl rfl rfl) ?_
  refine jS (ru_call C2 ⟨rfl, trivial⟩) ?_
  refine jS (rt_bin_to rfl rfl (fun w => run_eqi w _ _ _ _ _ _) (vbool (beqT (by first | assumption | omega)))) ?_
  refine RG.nil (by kernel_rfl) ?_
  repeat (first | refine js ?_ | refine jb ?_)
  refine WpD.condT rfl ?_
  repeat (first | refine js ?_ | refine jb ?_)
  refine jr ?_
  refine jS (ru_build (ps := []) trivial rfl) ?_
  refine ja rfl ?_
  refine jO (ru_storeR rfl rfl rfl rfl rfl rfl) ?_
  refine ja rfl ?_
  refine RG.nil (by kernel_rfl) ?_
  repeat (first | refine js ?_ | refine jb ?_)
  refine WpD.ret ?_
  exact ret3 rfl (.tmp rfl) (.cell rfl rfl CRow.ok rfl) (.tmp rfl) (PLe.refl _)
end
end Go.Proofs.YtnhbdldchoepfaaDoor

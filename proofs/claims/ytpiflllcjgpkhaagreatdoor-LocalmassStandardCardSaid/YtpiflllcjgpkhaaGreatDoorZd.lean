/- The reference's DivMod, Rem, Gcd, by the divide in full. -/
import Derived.Test.YtpiflllcjgpkhaaGreatDoorZc
set_option maxRecDepth 3000
namespace Go.Proofs.YtpiflllcjgpkhaaGreatDoor
open Go.RowKit Limb
instance cbody143 : CBody Tryz.prog 143 := ⟨⟨_, Tryz.func143, rfl, by rfl⟩⟩
section
variable (En : Ev)
theorem cadd (z z' : Int) (h : sz z ≤ 1073741824) (h' : sz z' ≤ 1073741824) : Fn Tryz.prog En 126 [zC z, zC z'] (zC (z + z')) := by
  have := fadd En (decide (z < 0)) (digs z.natAbs) (decide (z' < 0)) (digs z'.natAbs) h h'
  rwa [zv_C, zv_C] at this
theorem csub (z z' : Int) (h : sz z ≤ 1073741824) (h' : sz z' ≤ 1073741824) : Fn Tryz.prog En 154 [zC z, zC z'] (zC (z - z')) := by
  have := fsub En (decide (z < 0)) (digs z.natAbs) (decide (z' < 0)) (digs z'.natAbs) h h'
  rwa [zv_C, zv_C] at this
theorem csign (z : Int) (h : sz z ≤ 1099511627776) : Fn Tryz.prog En 122 [zC z] (ex (.int .i64 (sg3 z))) := by
  have := fsign En (decide (z < 0)) (digs z.natAbs) h
  rwa [zv_C] at this
theorem cabs (z : Int) (h : sz z ≤ 1099511627776) : Fn Tryz.prog En 143 [zC z] (zC (z.natAbs : Int)) := by
  have := fabs En (decide (z < 0)) (digs z.natAbs) h
  rwa [zv_C] at this
theorem cmake (neg : Bool) (n : Nat) (z : Int) (h : (digs n).length ≤ 1099511627776) (hz : z = if neg then -(n : Int) else (n : Int)) : Fn Tryz.prog En 128 [ex (.bool neg), mag (digs n)] (zC z) := by
  have := fmake En neg (digs n) h
  unfold zv sgnZ at this
  rw [val_digs] at this
  rw [hz]
  exact this
theorem sg3_neg (z : Int) : decide (sg3 z < 0) = decide (z < 0) := by
  unfold sg3
  by_cases h : z < 0
  · simp [h]; split <;> omega
  · simp [h]; split <;> (try split) <;> omega
/-- The quotient and the rest, out of those of the absolute values. -/
def dmQ (s s' : Bool) (x y : Nat) : Int := if (s != s') then -((x / y : Nat) : Int) else ((x / y : Nat) : Int)
def dmR (s : Bool) (x y : Nat) : Int := if s then -((x % y : Nat) : Int) else ((x % y : Nat) : Int)
theorem dm_pos {s s' : Bool} {x y : Nat} (hy : y ≠ 0) (h : ¬ dmR s x y < 0) : sgnZ s x / sgnZ s' y = dmQ s s' x y ∧ sgnZ s x % sgnZ s' y = dmR s x y := by
  have e := Nat.div_add_mod x y
  have hlt := Nat.mod_lt x (Nat.pos_of_ne_zero hy)
  have ec : (x : Int) = (y : Int) * ((x / y : Nat) : Int) + ((x % y : Nat) : Int) := by exact_mod_cast e.symm
  unfold dmR at h
  refine divmod_unique (by unfold sgnZ; split <;> omega) ?_ (by unfold dmR; omega) (by unfold dmR sgnZ; split <;> split <;> omega)
  unfold sgnZ dmQ dmR
  generalize ((x / y : Nat) : Int) = q at *
  generalize ((x % y : Nat) : Int) = r at *
  cases s <;> cases s' <;> simp [Int.neg_mul, Int.mul_neg] <;> rw [ec] <;> omega
theorem dm_neg {s s' : Bool} {x y : Nat} (hy : y ≠ 0) (h : dmR s x y < 0) : sgnZ s x / sgnZ s' y = (if s' then dmQ s s' x y + 1 else dmQ s s' x y - 1) ∧ sgnZ s x % sgnZ s' y = dmR s x y + y := by
  have e := Nat.div_add_mod x y
  have hlt := Nat.mod_lt x (Nat.pos_of_ne_zero hy)
  have ec : (x : Int) = (y : Int) * ((x / y : Nat) : Int) + ((x % y : Nat) : Int) := by exact_mod_cast e.symm
  cases s with
  | false => unfold dmR at h; simp at h; omega
  | true =>
    unfold dmR at h ⊢
    simp only [if_true] at h ⊢
    refine divmod_unique (by unfold sgnZ; split <;> omega) ?_ (by omega) (by unfold sgnZ; split <;> omega)
    unfold sgnZ dmQ
    generalize ((x / y : Nat) : Int) = q at *
    generalize ((x % y : Nat) : Int) = r at *
    cases s' <;> simp [Int.mul_sub, Int.mul_add, Int.neg_mul, Int.mul_neg] <;> rw [ec] <;> omega
set_option maxHeartbeats 1000000 in
theorem fdivmod (s : Bool) (l : List Nat) (s' : Bool) (l' : List Nat) (hl : l.length ≤ 536870912) (hl' : l'.length ≤ 536870912) (hlm : Lm l) (hlm' : Lm l') (hy : zv s' l' ≠ 0) :
    Fn Tryz.prog En 145 [zR s l, zR s' l'] (tupP [zC (zv s l / zv s' l'), zC (zv s l % zv s' l'), ex (.bool true)]) := by
  have C1 := ftrim En l (by omega)
  have C2 := ftrim En l' (by omega)
  have D1 := digs_le_len hl hlm
  have D2 := digs_le_len hl' hlm'
  have C3 := fdivideA En (val l) (val l') D1 D2 (fun h => hy (by unfold zv; rw [h]; cases s' <;> rfl))
  unfold DivP at C3
  have hy0 : val l' ≠ 0 := by intro h; apply hy; unfold zv; rw [h]; cases s' <;> rfl
  generalize hx : val l = x at *
  generalize hyy : val l' = y at *
  have Q1 : (digs (x / y)).length ≤ 536870912 := Nat.le_trans (digs_mono (Nat.div_le_self _ _)) D1
  have R1 : (digs (x % y)).length ≤ 536870912 := Nat.le_trans (digs_mono (Nat.mod_le _ _)) D1
  have hlen : (((digs y).length : Int) == 0) = false := by
    rw [beq_eq_false_iff_ne]
    have := digs_pos y
    rw [decide_eq_true (by omega : 0 < y), decide_eq_true_eq] at this
    omega
  have hX : zv s l = sgnZ s x := by unfold zv; rw [hx]
  have hY : zv s' l' = sgnZ s' y := by unfold zv; rw [hyy]
  rw [hX, hY]
  have C4 := cmake En (s != s') (x / y) (dmQ s s' x y) (by omega) rfl
  have C5 := cmake En s (x % y) (dmR s x y) (by omega) rfl
  have szQ : sz (dmQ s s' x y) ≤ 536870912 := by unfold sz dmQ; split <;> (first | rw [Int.natAbs_neg] | skip) <;> (rw [Int.natAbs_natCast]; exact Q1)
  have szR : sz (dmR s x y) ≤ 536870912 := by unfold sz dmR; split <;> (first | rw [Int.natAbs_neg] | skip) <;> (rw [Int.natAbs_natCast]; exact R1)
  have C6 := csign En (dmR s x y) (by omega)
  have C7 := cmake En false y (y : Int) (by omega) (by simp)
  have C8 := cadd En (dmR s x y) (y : Int) (by omega) (by unfold sz; simp; omega)
  have C9 := fsmall En 1 (by omega) (by omega)
  have s1 : sz 1 ≤ 1073741824 := by decide
  have C10 := cadd En (dmQ s s' x y) 1 (by omega) s1
  have C11 := csub En (dmQ s s' x y) 1 (by omega) s1
  have C12 := fsign En s' l' (by omega)
  rw [hY] at C12
  refine fn_of_body Tryz.func145 rfl Tryz.ntmps145 rfl ?_
  intro w0 h0
  repeat (first | refine js ?_ | refine jb ?_)
  refine jr ?_
  refine jT (ru_boxR rfl rfl rfl) ?_
  refine jT (ru_boxR rfl rfl rfl) ?_
  refine jT (ru_alloc rfl rfl rfl) ?_
  refine jT (ru_alloc rfl rfl rfl) ?_
  refine ja rfl ?_
  refine RG.nil (by kernel_rfl) ?_
  repeat (first | refine js ?_ | refine jb ?_)
  refine jr ?_
  refine jS (ru_fieldAddr rfl rfl) ?_
  refine jS (ru_load1 rfl rfl rfl) ?_
  refine jS (ru_call C1 ⟨rfl, trivial⟩) ?_
  refine jS (ru_fieldAddr rfl rfl) ?_
  refine jS (ru_load1 rfl rfl rfl) ?_
  refine jS (ru_call C2 ⟨rfl, trivial⟩) ?_
  refine ja rfl ?_
  refine ja rfl ?_
  refine RG.nil (by kernel_rfl) ?_
  repeat (first | refine js ?_ | refine jb ?_)
  refine jr ?_
  refine jm rfl ?_
  refine jS (ru_len rfl CSlice.ok) ?_
  refine jS (rt_bin rfl rfl (fun w => run_eqi w _ _ _ _ _ _)) ?_
  refine RG.nil (by kernel_rfl) ?_
  refine WpD.cond rfl (fun hb => (by rw [hlen] at hb; cases hb)) (fun _ => ?_)
  refine WpD.skip ?_
  repeat (first | refine js ?_ | refine jb ?_)
  refine jr ?_
  refine jm rfl ?_
  refine jm rfl ?_
  refine jS (ru_call C3 ⟨rfl, rfl, trivial⟩) ?_
  refine jm rfl ?_
  refine jS (rt_extract rfl rfl) ?_
  refine jS (rt_extract rfl rfl) ?_
  refine ja rfl ?_
  refine ja rfl ?_
  refine RG.nil (by kernel_rfl) ?_
  repeat (first | refine js ?_ | refine jb ?_)
  refine jr ?_
  refine jS (ru_fieldAddr rfl rfl) ?_
  refine jS (ru_load1 rfl rfl rfl) ?_
  refine jS (ru_fieldAddr rfl rfl) ?_
  refine jS (ru_load1 rfl rfl rfl) ?_
  refine jS (rt_bin rfl rfl (fun w => run_neb w CBool.ok _ _ _ _)) ?_
  refine jm rfl ?_
  refine jS (ru_call C4 ⟨rfl, rfl, trivial⟩) ?_
  refine jS (ru_fieldAddr rfl rfl) ?_
  refine jS (ru_load1 rfl rfl rfl) ?_
  refine jm rfl ?_
  refine jS (ru_call C5 ⟨rfl, rfl, trivial⟩) ?_
  refine jT (ru_alloc rfl rfl rfl) ?_
  refine jT (ru_alloc rfl rfl rfl) ?_
  refine jO (ru_storeR rfl rfl rfl rfl rfl rfl) ?_
  refine jO (ru_storeR rfl rfl rfl rfl rfl rfl) ?_
  refine RG.nil (by kernel_rfl) ?_
  repeat (first | refine js ?_ | refine jb ?_)
  refine jr ?_
  refine jS (ru_loadR rfl rfl rfl rfl) ?_
  refine jS (ru_call C6 ⟨rfl, trivial⟩) ?_
  refine jS (rt_bin rfl rfl (fun w => run_lti w _ _ _ _ _ _)) ?_
  refine RG.nil (by kernel_rfl) ?_
  refine WpD.cond rfl (fun hb => ?_) (fun hb => ?_)
  · have hneg : dmR s x y < 0 := by rw [sg3_neg] at hb; simpa using hb
    obtain ⟨e1, e2⟩ := dm_neg (s' := s') hy0 hneg
    rw [e1, e2]
    repeat (first | refine js ?_ | refine jb ?_)
    refine jr ?_
    refine jS (ru_loadR rfl rfl rfl rfl) ?_
    refine jm rfl ?_
    refine jS (ru_call C7 ⟨rfl, rfl, trivial⟩) ?_
    refine jS (ru_call C8 ⟨rfl, rfl, trivial⟩) ?_
    refine jO (ru_storeR rfl rfl rfl rfl rfl rfl) ?_
    refine RG.nil (by kernel_rfl) ?_
    repeat (first | refine js ?_ | refine jb ?_)
    refine jr ?_
    refine jS (ru_loadR rfl rfl rfl rfl) ?_
    refine jS (ru_call C12 ⟨rfl, trivial⟩) ?_
    refine jS (rt_bin rfl rfl (fun w => run_lti w _ _ _ _ _ _)) ?_
    refine RG.nil (by kernel_rfl) ?_
    refine WpD.cond rfl (fun hb => ?_) (fun hb => ?_)
    ·
      repeat (first | refine js ?_ | refine jb ?_)
      refine jr ?_
      refine jS (ru_loadR rfl rfl rfl rfl) ?_
      refine jS (ru_call C9 ⟨rfl, trivial⟩) ?_
      refine jS (ru_call C10 ⟨rfl, rfl, trivial⟩) ?_
      refine jS (ru_loadR rfl rfl rfl rfl) ?_
      refine jO (ru_storeR rfl rfl rfl rfl rfl rfl) ?_
      refine jO (ru_storeR rfl rfl rfl rfl rfl rfl) ?_
      refine ja rfl ?_
      refine RG.nil (by kernel_rfl) ?_
      have hs' : s' = true := by
        rw [sg3_neg] at hb
        unfold sgnZ at hb
        cases s'
        · simp at hb; omega
        · rfl
      subst hs'
      refine WpD.ret ?_
      exact ret3 rfl (.cell rfl rfl CRow.ok rfl) (.cell rfl rfl CRow.ok rfl) (.tmp rfl) (PLe.refl _)
    · refine WpD.skip ?_
      repeat (first | refine js ?_ | refine jb ?_)
      refine jr ?_
      refine jS (ru_loadR rfl rfl rfl rfl) ?_
      refine jS (ru_call C9 ⟨rfl, trivial⟩) ?_
      refine jS (ru_call C11 ⟨rfl, rfl, trivial⟩) ?_
      refine jS (ru_loadR rfl rfl rfl rfl) ?_
      refine jO (ru_storeR rfl rfl rfl rfl rfl rfl) ?_
      refine jO (ru_storeR rfl rfl rfl rfl rfl rfl) ?_
      refine ja rfl ?_
      refine RG.nil (by kernel_rfl) ?_
      have hs' : s' = false := by
        rw [sg3_neg] at hb
        unfold sgnZ at hb
        cases s'
        · rfl
        · simp at hb; omega
      subst hs'
      refine WpD.ret ?_
      exact ret3 rfl (.cell rfl rfl CRow.ok rfl) (.cell rfl rfl CRow.ok rfl) (.tmp rfl) (PLe.refl _)
  · have hneg : ¬ dmR s x y < 0 := by rw [sg3_neg] at hb; simpa using hb
    obtain ⟨e1, e2⟩ := dm_pos (s' := s') hy0 hneg
    rw [e1, e2]
    refine WpD.skip ?_
    repeat (first | refine js ?_ | refine jb ?_)
    refine jr ?_
    refine jS (ru_loadR rfl rfl rfl rfl) ?_
    refine jS (ru_loadR rfl rfl rfl rfl) ?_
    refine jO (ru_storeR rfl rfl rfl rfl rfl rfl) ?_
    refine jO (ru_storeR rfl rfl rfl rfl rfl rfl) ?_
    refine ja rfl ?_
    refine RG.nil (by kernel_rfl) ?_
    refine WpD.ret ?_
    exact ret3 rfl (.cell rfl rfl CRow.ok rfl) (.cell rfl rfl CRow.ok rfl) (.tmp rfl) (PLe.refl _)
theorem frem (s : Bool) (l : List Nat) (s' : Bool) (l' : List Nat) (hl : l.length ≤ 536870912) (hl' : l'.length ≤ 536870912) (hlm : Lm l) (hlm' : Lm l') (hy : zv s' l' ≠ 0) :
    Fn Tryz.prog En 144 [zR s l, zR s' l'] (zC (zv s l % zv s' l')) := by
  have C1 := fdivmod En s l s' l' hl hl' hlm hlm' hy
  refine fn_of_body Tryz.func144 rfl Tryz.ntmps144 rfl ?_
  intro w0 h0
  repeat (first | refine js ?_ | refine jb ?_)
  refine jr ?_
  refine jT (ru_boxR rfl rfl rfl) ?_
  refine jT (ru_boxR rfl rfl rfl) ?_
  refine jT (ru_alloc rfl rfl rfl) ?_
  refine RG.nil (by kernel_rfl) ?_
  repeat (first | refine js ?_ | refine jb ?_)
  refine jr ?_
  refine jS (ru_loadR rfl rfl rfl rfl) ?_
  refine jS (ru_loadR rfl rfl rfl rfl) ?_
  refine jS (ru_call C1 ⟨rfl, rfl, trivial⟩) ?_
  refine jm rfl ?_
  refine jS (rt_extract rfl rfl) ?_
  refine jS (rt_extract rfl rfl) ?_
  refine jS (rt_extract rfl rfl) ?_
  refine jT (ru_alloc rfl rfl rfl) ?_
  refine jT (ru_alloc rfl rfl rfl) ?_
  refine jO (ru_storeR rfl rfl rfl rfl rfl rfl) ?_
  refine jO (ru_storeR rfl rfl rfl rfl rfl rfl) ?_
  refine ja rfl ?_
  refine RG.nil (by kernel_rfl) ?_
  repeat (first | refine js ?_ | refine jb ?_)
  refine jr ?_
  refine jS (ru_loadR rfl rfl rfl rfl) ?_
  refine jO (ru_storeR rfl rfl rfl rfl rfl rfl) ?_
  refine RG.nil (by kernel_rfl) ?_
  refine WpD.ret ?_
  exact ret1 rfl (.cell rfl rfl CRow.ok rfl) (PLe.refl _)
theorem crem (z z' : Int) (h : sz z ≤ 536870912) (h' : sz z' ≤ 536870912) (hz : z' ≠ 0) : Fn Tryz.prog En 144 [zC z, zC z'] (zC (z % z')) := by
  have := frem En (decide (z < 0)) (digs z.natAbs) (decide (z' < 0)) (digs z'.natAbs) h h' (lm_digs _) (lm_digs _) (by rw [zv_C]; exact hz)
  rwa [zv_C, zv_C] at this
end
theorem sg3_zero (z : Int) : (sg3 z != 0) = decide (z ≠ 0) := by
  unfold sg3
  by_cases h : z = 0
  · simp [h]
  · rcases Int.lt_or_lt_of_ne h with h1 | h1 <;> simp [h] <;> (try split) <;> omega
set_option maxHeartbeats 1000000 in
theorem cgcd (En : Ev) (N : Nat) (hN : sz (N : Int) ≤ 536870912) (a b : Int) (ha : a.natAbs ≤ N) (hb : b.natAbs ≤ N) : Fn Tryz.prog En 124 [zC a, zC b] (zC (Int.gcd a b : Int)) := by
  have hsz : ∀ n : Nat, n ≤ N → sz (n : Int) ≤ 536870912 := fun n hn => Nat.le_trans (digs_mono (by simpa using hn)) hN
  have sza : sz a ≤ 536870912 := hsz a.natAbs ha
  have szb : sz b ≤ 536870912 := hsz b.natAbs hb
  have C1 := cabs En a (by omega)
  have C2 := cabs En b (by omega)
  refine fn_of_body Tryz.func124 rfl Tryz.ntmps124 rfl ?_
  intro w0 h0
  repeat (first | refine js ?_ | refine jb ?_)
  refine jr ?_
  refine jT (ru_boxR rfl rfl rfl) ?_
  refine jT (ru_boxR rfl rfl rfl) ?_
  refine jT (ru_alloc rfl rfl rfl) ?_
  refine RG.nil (by kernel_rfl) ?_
  repeat (first | refine js ?_ | refine jb ?_)
  refine jr ?_
  refine jS (ru_loadR rfl rfl rfl rfl) ?_
  refine jS (ru_call C1 ⟨rfl, trivial⟩) ?_
  refine jS (ru_loadR rfl rfl rfl rfl) ?_
  refine jS (ru_call C2 ⟨rfl, trivial⟩) ?_
  refine jT (ru_alloc rfl rfl rfl) ?_
  refine jT (ru_alloc rfl rfl rfl) ?_
  refine jO (ru_storeR rfl rfl rfl rfl rfl rfl) ?_
  refine jO (ru_storeR rfl rfl rfl rfl rfl rfl) ?_
  refine RG.nil (by kernel_rfl) ?_
  refine WpD.seq ?_
  refine WpD.block ?_
  refine WpD.loop (α := {p : Nat × Nat // Nat.gcd p.1 p.2 = Int.gcd a b ∧ p.1 ≤ N ∧ p.2 ≤ N})
    (fun p => ⟨[(4, .ptr 4 0), (5, .ptr 5 0), (6, .ptr 6 0)], [(4, [ex (.bool false), ex (.slice none 0 0)]), (5, zCells p.1.1), (6, zCells p.1.2)]⟩) (fun p => p.1.2) ⟨(a.natAbs, b.natAbs), rfl, ha, hb⟩ ?_ ?_
  ·
    refine Sub.mk ?_ ?_
    · repeat (first | exact trivial | refine jv rfl ?_ | refine jw rfl (js0 rfl) ?_ | refine jw rfl ⟨js0 rfl, js0 rfl⟩ ?_ | refine jx rfl ⟨js0 rfl, js0 rfl⟩ ?_ | refine jw rfl (clo_live (js0 rfl) (js0 rfl)) ?_ | refine ⟨⟨_, rfl, PLe.refl _⟩, trivial, ?_⟩)
    · repeat (first | exact trivial | refine jz ?_ | refine jy rfl ?_)
  · rintro ⟨⟨x, y⟩, hg, hx, hy⟩
    have C3 := csign En (y : Int) (by have := hsz y hy; omega)
    repeat (first | refine js ?_ | refine jb ?_)
    refine jr ?_
    refine jS (ru_loadR rfl rfl rfl rfl) ?_
    refine jS (ru_call C3 ⟨rfl, trivial⟩) ?_
    refine jS (rt_bin rfl rfl (fun w => run_nei w _ _ _ _ _ _)) ?_
    refine RG.nil (by kernel_rfl) ?_
    refine WpD.cond rfl (fun hb => ?_) (fun hb => ?_)
    · rw [sg3_zero] at hb
      have hy0 : y ≠ 0 := by simpa using hb
      have C4 := crem En (x : Int) (y : Int) (hsz x hx) (hsz y hy) (by omega)
      rw [show (x : Int) % (y : Int) = ((x % y : Nat) : Int) from rfl] at C4
      refine WpD.skip ?_
      repeat (first | refine js ?_ | refine jb ?_)
      refine jr ?_
      refine jS (ru_loadR rfl rfl rfl rfl) ?_
      refine jS (ru_loadR rfl rfl rfl rfl) ?_
      refine jS (ru_loadR rfl rfl rfl rfl) ?_
      refine jS (ru_call C4 ⟨rfl, rfl, trivial⟩) ?_
      refine jO (ru_storeR rfl rfl rfl rfl rfl rfl) ?_
      refine jO (ru_storeR rfl rfl rfl rfl rfl rfl) ?_
      refine RG.nil (by kernel_rfl) ?_
      refine ⟨⟨(y, x % y), ?_, hy, Nat.le_trans (Nat.mod_le _ _) hx⟩, ?_, Nat.mod_lt _ (by omega)⟩
      · rw [← hg, Nat.gcd_comm x y, Nat.gcd_rec y x, Nat.gcd_comm]
      ·
        refine Sub.mk ?_ ?_
        · repeat (first | exact trivial | refine jv rfl ?_ | refine jw rfl (js0 rfl) ?_ | refine jw rfl ⟨js0 rfl, js0 rfl⟩ ?_ | refine jx rfl ⟨js0 rfl, js0 rfl⟩ ?_ | refine jw rfl (clo_live (js0 rfl) (js0 rfl)) ?_ | refine ⟨⟨_, rfl, PLe.refl _⟩, trivial, ?_⟩)
        · repeat (first | exact trivial | refine jz ?_ | refine jy rfl ?_)
    · rw [sg3_zero] at hb
      have hy0 : y = 0 := by simpa using hb
      subst hy0
      have hgx : x = Int.gcd a b := by rw [← hg]; simp
      subst hgx
      refine WpD.exit ?_
      repeat (first | refine js ?_ | refine jb ?_)
      refine jr ?_
      refine jS (ru_loadR rfl rfl rfl rfl) ?_
      refine jO (ru_storeR rfl rfl rfl rfl rfl rfl) ?_
      refine RG.nil (by kernel_rfl) ?_
      refine WpD.ret ?_
      exact ret1 rfl (.cell rfl rfl CRow.ok rfl) (PLe.refl _)
end Go.Proofs.YtpiflllcjgpkhaaGreatDoor

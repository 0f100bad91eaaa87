/- Texts of small numbers: slices.Reverse, integer.Format, rational.Format. -/
import Derived.Test.YtpiflllcjgpkhaaGreatDoorRb
set_option maxRecDepth 3000
namespace Go.Proofs.YtpiflllcjgpkhaaGreatDoor
open Go.RowKit Limb
instance cint_u8 : CInt Tryz.prog 5 .u8 := ⟨Tryz.underlying5⟩
instance cone_u8 : COne Tryz.prog 5 := ⟨⟨_, Tryz.underlying5, rfl, by kernel_rfl⟩⟩
instance cslice_u8 : CSlice Tryz.prog 112 5 := ⟨Tryz.underlying112⟩
instance celem_u8 : CElem Tryz.prog 112 5 1 := ⟨Tryz.underlying112, by kernel_rfl⟩
instance crowz_u8 : CRowZ Tryz.prog 5 1 [.int .u8 0] 1 := ⟨by kernel_rfl, rfl, rfl⟩
instance cstr : CStr Tryz.prog 9 := ⟨Tryz.underlying9⟩
instance cbody81 : CBody Tryz.prog 81 := ⟨⟨_, Tryz.func81, rfl, by rfl⟩⟩
instance cbody51 : CBody Tryz.prog 51 := ⟨⟨_, Tryz.func51, rfl, by rfl⟩⟩
instance cbody25 : CBody Tryz.prog 25 := ⟨⟨_, Tryz.func25, rfl, by rfl⟩⟩
/-- A list, i of its places at each end exchanged. -/
def RevI (l : List Nat) (i : Nat) (m : List Nat) : Prop := m.length = l.length ∧ ∀ j, j < l.length → m[j]? = if j < i ∨ l.length - i ≤ j then l[l.length - 1 - j]? else l[j]?
theorem RevI.step {l m : List Nat} {i x y : Nat} (h : RevI l i m) (hi : i < l.length - 1 - i) (hx : m[l.length - 1 - i]? = some x) (hy : m[i]? = some y) : RevI l (i + 1) ((m.set i x).set (l.length - 1 - i) y) := by
  obtain ⟨h1, h2⟩ := h
  refine ⟨by simp [h1], fun j hj => ?_⟩
  have gx := h2 (l.length - 1 - i) (by omega)
  rw [if_neg (by omega), hx] at gx
  have gy := h2 i (by omega)
  rw [if_neg (by omega), hy] at gy
  by_cases e1 : j = l.length - 1 - i
  · subst e1
    rw [List.getElem?_set_self (by simp [h1]; omega), if_pos (by omega), show l.length - 1 - (l.length - 1 - i) = i by omega, ← gy]
  · rw [List.getElem?_set_ne (by omega)]
    by_cases e2 : j = i
    · subst e2
      rw [List.getElem?_set_self (by omega), if_pos (by omega), ← gx]
    · rw [List.getElem?_set_ne (by omega), h2 j hj]
      by_cases e3 : j < i ∨ l.length - i ≤ j
      · rw [if_pos e3, if_pos (by omega)]
      · rw [if_neg e3, if_neg (by omega)]
theorem RevI.done {l m : List Nat} {i : Nat} (h : RevI l i m) (hi : ¬ ((i : Int) < (l.length : Int) - 1 - i)) : m = l.reverse := by
  obtain ⟨h1, h2⟩ := h
  apply List.ext_getElem?
  intro j
  by_cases hj : j < l.length
  · rw [h2 j hj, List.getElem?_reverse hj]
    by_cases e : j < i ∨ l.length - i ≤ j
    · rw [if_pos e]
    · rw [if_neg e]; congr 1; omega
  · rw [List.getElem?_eq_none (by omega), List.getElem?_eq_none (by simp; omega)]
section
variable (En : Ev)
theorem breverse (l : List Nat) (cap : Nat) (hl : l.length ≤ 1000000) : FnG Tryz.prog En 81 [.own 1000 0 l.length cap] [(1000, l.map byt)] (.one (ex (.tuple #[]))) [(1000, l.reverse.map byt)] := by
  have e0 : IntKind.i64.wrap ((l.length : Int) - 1) = (l.length : Int) - 1 - (0 : Nat) := by rw [w64 (by omega) (by omega)]; simp
  refine fn_of_bodyG Tryz.func81 rfl Tryz.ntmps81 rfl ?_
  intro w0 h0 c
  repeat (first | refine js ?_ | refine jb ?_)
  refine jr ?_
  refine jm rfl ?_
  refine jS (ru_lenO rfl CSlice.ok) ?_
  refine jS (rt_bin_to rfl rfl (fun w => run_subi w _ _ _ _ _ _) (vint e0)) ?_
  refine ja rfl ?_
  refine ja rfl ?_
  refine RG.nil (by kernel_rfl) ?_
  repeat (first | refine js ?_ | refine jb ?_)
  refine WpD.loop (α := {p : Nat × List Nat // p.1 ≤ l.length ∧ RevI l p.1 p.2}) (fun p => ⟨[(0, .own 1000 0 l.length cap), (2, .one (ex (.int .i64 ((p.1.1 : Nat) : Int)))), (3, .one (ex (.int .i64 ((l.length : Int) - 1 - (p.1.1 : Nat)))))], [(1000, p.1.2.map byt)]⟩) (fun p => l.length - p.1.1) ⟨(0, l), by omega, rfl, fun j hj => by rw [if_neg (by omega)]⟩ ?_ ?_
  · refine Sub.mk ?_ ?_
    · repeat (first | exact trivial | refine jv rfl ?_ | refine jw rfl (js0 rfl) ?_ | refine jw rfl ⟨js0 rfl, js0 rfl⟩ ?_ | refine jx rfl ⟨js0 rfl, js0 rfl⟩ ?_ | refine jw rfl (clo_live (js0 rfl) (js0 rfl)) ?_ | refine ⟨⟨_, rfl, PLe.refl _⟩, trivial, ?_⟩)
    · repeat (first | exact trivial | refine jz ?_ | refine jy rfl ?_)
  rintro ⟨⟨i, m⟩, hi, hm⟩
  dsimp only at hi hm ⊢
  by_cases hlt : (i : Int) < (l.length : Int) - 1 - i
  · have hml := hm.1
    have i1 : i < l.length - 1 - i := by omega
    obtain ⟨x, hx⟩ : ∃ x, m[l.length - 1 - i]? = some x := ⟨m[l.length - 1 - i]'(by omega), List.getElem?_eq_getElem (by omega)⟩
    obtain ⟨y, hy⟩ : ∃ y, m[i]? = some y := ⟨m[i]'(by omega), List.getElem?_eq_getElem (by omega)⟩
    have hst := hm.step i1 hx hy
    have ei : (l.length : Int) - 1 - (i : Nat) = ((l.length - 1 - i : Nat) : Int) := by omega
    have gx : (m.map byt)[l.length - 1 - i]? = some (byt x) := by rw [List.getElem?_map, hx]; rfl
    have gy : (m.map byt)[i]? = some (byt y) := by rw [List.getElem?_map, hy]; rfl
    have s1 : (m.map byt).set i (byt x) = (m.set i x).map byt := by rw [List.map_set]
    have s2 : ((m.set i x).map byt).set (l.length - 1 - i) (byt y) = ((m.set i x).set (l.length - 1 - i) y).map byt := by rw [List.map_set, List.map_set, List.map_set]
    have l1 : i < (m.map byt).length := by simp; omega
    have l2 : l.length - 1 - i < ((m.set i x).map byt).length := by simp; omega
    have e2 : IntKind.i64.wrap ((i : Int) + 1) = ((i + 1 : Nat) : Int) := by rw [w64 (by omega) (by omega)]; rfl
    have e3 : IntKind.i64.wrap (((l.length - 1 - i : Nat) : Int) - 1) = (l.length : Int) - 1 - ((i + 1 : Nat) : Int) := by rw [w64 (by omega) (by omega)]; omega
    rw [ei] at hlt ⊢
    repeat (first | refine js ?_ | refine jb ?_)
    refine jr ?_
    refine jm rfl ?_
    refine jm rfl ?_
    refine jS (rt_bin_to rfl rfl (fun w => run_lti w _ _ _ _ _ _) (vbool (decide_eq_true (by first | assumption | omega)))) ?_
    refine RG.nil (by kernel_rfl) ?_
    repeat (first | refine js ?_ | refine jb ?_)
    refine WpD.condT rfl ?_
    repeat (first | refine js ?_ | refine jb ?_)
    refine WpD.skip ?_
    repeat (first | refine js ?_ | refine jb ?_)
    refine jr ?_
    refine jm rfl ?_
    refine jm rfl ?_
    refine jm rfl ?_
    refine jm rfl ?_
    refine jm rfl ?_
    refine jm rfl ?_
    refine jS (ru_indexR rfl rfl (by omega) (o' := l.length - 1 - i) (by omega)) ?_
    refine jS (ru_load1 rfl rfl (by assumption)) ?_
    refine jm rfl ?_
    refine jm rfl ?_
    refine jS (ru_indexR rfl rfl (by omega) (o' := i) (by omega)) ?_
    refine jS (ru_load1 rfl rfl (by assumption)) ?_
    refine jS (ru_indexR rfl rfl (by omega) (o' := i) (by omega)) ?_
    refine jO (ru_set1 rfl rfl rfl (by assumption) (by assumption)) ?_
    refine jS (ru_indexR rfl rfl (by omega) (o' := l.length - 1 - i) (by omega)) ?_
    refine jO (ru_set1 rfl rfl rfl (by assumption) (by assumption)) ?_
    refine RG.nil (by kernel_rfl) ?_
    repeat (first | refine js ?_ | refine jb ?_)
    refine jr ?_
    refine jm rfl ?_
    refine jS (rt_bin_to rfl rfl (fun w => run_addi w _ _ _ _ _ _) (vint e2)) ?_
    refine jm rfl ?_
    refine jS (rt_bin_to rfl rfl (fun w => run_subi w _ _ _ _ _ _) (vint e3)) ?_
    refine ja rfl ?_
    refine ja rfl ?_
    refine RG.nil (by kernel_rfl) ?_
    refine ⟨⟨(i + 1, (m.set i x).set (l.length - 1 - i) y), by omega, hst⟩, ?_, by dsimp only; omega⟩
    refine Sub.mk ?_ ?_
    · repeat (first | exact trivial | refine jv rfl ?_ | refine jw rfl (js0 rfl) ?_ | refine jw rfl ⟨js0 rfl, js0 rfl⟩ ?_ | refine jx rfl ⟨js0 rfl, js0 rfl⟩ ?_ | refine jw rfl (clo_live (js0 rfl) (js0 rfl)) ?_ | refine ⟨⟨_, rfl, PLe.refl _⟩, trivial, ?_⟩)
    · repeat (first | exact trivial | refine jz ?_ | refine jy rfl ?_)
  · have hd := hm.done hlt
    subst hd
    repeat (first | refine js ?_ | refine jb ?_)
    refine jr ?_
    refine jm rfl ?_
    refine jm rfl ?_
    refine jS (rt_bin_to rfl rfl (fun w => run_lti w _ _ _ _ _ _) (vbool (decide_eq_false (by first | assumption | omega)))) ?_
    refine RG.nil (by kernel_rfl) ?_
    repeat (first | refine js ?_ | refine jb ?_)
    refine WpD.condF rfl ?_
    repeat (first | refine js ?_ | refine jb ?_)
    refine WpD.exit ?_
    exact retG0 rfl ⟨.inl ⟨_, rfl, PsLe.refl _⟩, trivial⟩
/-- The digits of a number of at most nine, the least one first. -/
def dgt (n j : Nat) : Nat := 48 + n / 10 ^ j % 10
def dgts (n i : Nat) : List Nat := (List.range i).map (dgt n)
theorem dgts_succ (n i : Nat) : dgts n (i + 1) = dgts n i ++ [dgt n i] := by unfold dgts; rw [List.range_succ, List.map_append]; rfl
theorem dgts_len (n i : Nat) : (dgts n i).length = i := by simp [dgts]
def fmtL (z : Int) (k : Nat) : List Nat := (dgts z.natAbs k ++ (if z < 0 then [45] else [])).reverse
theorem dgts_take (n : Nat) {i j : Nat} (h : i ≤ j) : (dgts n j).take i = dgts n i := by
  unfold dgts
  rw [← List.map_take, List.take_range, Nat.min_eq_left h]
theorem PsLe.take : ∀ (ps : List Pd) (k : Nat), PsLe ps (ps.take k)
  | [], k => by rw [List.take_nil]; trivial
  | _ :: _, 0 => by trivial
  | p :: ps, k + 1 => ⟨PLe.refl p, PsLe.take ps k⟩
set_option maxHeartbeats 2000000 in
theorem iformat (z : Int) (k : Nat) (hz : z.natAbs < 10 ^ k) (hk : k ≤ 9) (hk1 : 10 ^ (k - 1) ≤ z.natAbs) (hk0 : 0 < k) : Fn Tryz.prog En 51 [zC z] (ex (.string (txt (fmtL z k)))) := by
  have hpow : 10 ^ k ≤ 10 ^ 9 := Nat.pow_le_pow_right (by omega) hk
  have hpos : 0 < 10 ^ (k - 1) := Nat.pow_pos (by omega)
  unfold zC zR fmtL
  have hsb : (if z < 0 then [45] else []) = (if decide (z < 0) then [45] else [] : List Nat) := by simp
  rw [hsb]
  generalize z.natAbs = n at *
  generalize decide (z < 0) = sb
  have h9 : n < 1000000000 := by omega
  have hn0 : n ≠ 0 := by omega
  have hd : digs n = [n] := by rw [digs_step hn0, Nat.mod_eq_of_lt (by rw [B_def]; omega), show n / B = 0 from Nat.div_eq_of_lt (by rw [B_def]; omega)]; rfl
  have hlm1 : Lm [n] := by rw [← hd]; exact lm_digs n
  have hlm0 : Lm [0] := Lm.cons (by rw [B_def]; omega) Lm.nil
  have v1 : val [n] = n := by simp [val]
  rw [hd]
  have C1 := ntrim En [n] hlm1 (by simp)
  rw [v1, hd] at C1
  have C2 := nclone_own En [n] (by simp) (by simp)
  have C3 := ndivLimb En [n] [] 1000000000 1 (by simp) hlm1 (by omega) (by rw [B_def]; omega)
  rw [v1, Nat.mod_eq_of_lt h9, Nat.div_eq_of_lt h9, List.append_nil, List.append_nil, show pd 0 [n].length = [0] from rfl] at C3
  have C4 := ntrim En [0] hlm0 (by simp)
  rw [show val [0] = 0 from rfl, digs_zero] at C4
  have hp0 := arr_mag0 (l := [0]) (cap := 1) (by simp) hlm0
  have e00 : n / 10 ^ 0 = n := by simp
  refine fn_of_body Tryz.func51 rfl Tryz.ntmps51 rfl ?_
  intro w0 h0
  repeat (first | refine js ?_ | refine jb ?_)
  refine jr ?_
  refine jT (ru_boxR rfl rfl rfl) ?_
  refine ja rfl ?_
  refine RG.nil (by kernel_rfl) ?_
  repeat (first | refine js ?_ | refine jb ?_)
  refine jr ?_
  refine jS (ru_fieldAddr rfl rfl) ?_
  refine jS (ru_load1 rfl rfl rfl) ?_
  refine jS (ru_call C1 ⟨rfl, trivial⟩) ?_
  refine jT (ru_callO C2 rfl ⟨rfl, trivial⟩ rfl rfl) ?_
  refine ja rfl ?_
  refine RG.nil (by kernel_rfl) ?_
  repeat (first | refine js ?_ | refine jb ?_)
  refine jr ?_
  refine jm rfl ?_
  refine jS (ru_lenO rfl CSlice.ok) ?_
  refine jS (rt_bin_to rfl rfl (fun w => run_eqi w _ _ _ _ _ _) (vbool (beqF (by simp)))) ?_
  refine RG.nil (by kernel_rfl) ?_
  repeat (first | refine js ?_ | refine jb ?_)
  refine WpD.condF rfl ?_
  repeat (first | refine js ?_ | refine jb ?_)
  refine WpD.skip ?_
  repeat (first | refine js ?_ | refine jb ?_)
  refine jr ?_
  refine ja rfl ?_
  refine RG.nil (by kernel_rfl) ?_
  repeat (first | refine js ?_ | refine jb ?_)
  refine WpD.loop (α := Bool) (fun b => cond b ⟨[(1, .ptr 1 0), (3, .own 9 0 1 1), (4, .one (ex (.slice none 0 0)))], [(1, [ex (.bool sb), mag [n]]), (9, [lb n])]⟩ ⟨[(1, .ptr 1 0), (3, .one (mag [])), (4, .app 504 1 9)], [(1, [ex (.bool sb), mag [n]]), (504, (dgts n 9).map byt), (754, [])]⟩) (fun b => cond b 1 0) true ?_ ?_
  · refine Sub.mk ?_ ?_
    · repeat (first | exact trivial | refine jv rfl ?_ | refine jw rfl (js0 rfl) ?_ | refine jw rfl ⟨js0 rfl, js0 rfl⟩ ?_ | refine jx rfl ⟨js0 rfl, js0 rfl⟩ ?_ | refine jw rfl (clo_live (js0 rfl) (js0 rfl)) ?_ | refine ⟨⟨_, rfl, PLe.refl _⟩, trivial, ?_⟩)
    · repeat (first | exact trivial | refine jz ?_ | refine jy rfl ?_)
  rintro (_ | _)
  · dsimp only [cond]

    repeat (first | refine js ?_ | refine jb ?_)
    refine jr ?_
    refine jm rfl ?_
    refine jS (ru_len rfl CSlice.ok) ?_
    refine jS (rt_bin_to rfl rfl (fun w => run_gti w _ _ _ _ _ _) (vbool (decide_eq_false (by simp)))) ?_
    refine RG.nil (by kernel_rfl) ?_
    repeat (first | refine js ?_ | refine jb ?_)
    refine WpD.condF rfl ?_
    repeat (first | refine js ?_ | refine jb ?_)
    refine WpD.exit ?_
    repeat (first | refine js ?_ | refine jb ?_)
    refine WpD.loop (α := {j : Nat // k ≤ j ∧ j ≤ 9}) (fun j => ⟨[(1, .ptr 1 0), (4, .app 504 1 j.1)], [(1, [ex (.bool sb), mag [n]]), (504, (dgts n 9).map byt), (754, [])]⟩) (fun j => j.1) ⟨9, hk, by omega⟩ ?_ ?_
    · refine Sub.mk ?_ ?_
      · repeat (first | exact trivial | refine jv rfl ?_ | refine jw rfl (js0 rfl) ?_ | refine jw rfl ⟨js0 rfl, js0 rfl⟩ ?_ | refine jx rfl ⟨js0 rfl, js0 rfl⟩ ?_ | refine jw rfl (clo_live (js0 rfl) (js0 rfl)) ?_ | refine ⟨⟨_, rfl, PLe.refl _⟩, trivial, ?_⟩)
      · repeat (first | exact trivial | refine jz ?_ | refine jy rfl ?_)
    rintro ⟨j, hj1, hj2⟩
    dsimp only at hj1 hj2 ⊢
    have e5 : IntKind.i64.wrap ((j : Int) - 1) = ((j - 1 : Nat) : Int) := by rw [w64 (by omega) (by omega)]; omega
    have hget : ((dgts n 9).map byt)[j - 1]? = some (byt (dgt n (j - 1))) := by unfold dgts; rw [List.getElem?_map, List.getElem?_map, List.getElem?_range (by omega)]; rfl
    by_cases hjk : k < j
    · have hdz : ((dgt n (j - 1) : Nat) : Int) = 48 := by
        unfold dgt
        rw [Nat.div_eq_of_lt (Nat.lt_of_lt_of_le hz (Nat.pow_le_pow_right (by omega) (by omega)))]
        rfl
      repeat (first | refine js ?_ | refine jb ?_)
      refine jr ?_
      refine jm rfl ?_
      refine jm rfl ?_
      refine jS (ru_lenA rfl CSlice.ok) ?_
      refine jS (rt_bin_to rfl rfl (fun w => run_subi w _ _ _ _ _ _) (vint e5)) ?_
      refine jS (ru_indexA rfl rfl (by omega) (o := j - 1) (by omega)) ?_
      refine jS (ru_load1 rfl rfl (by assumption)) ?_
      refine jS (rt_bin_to rfl rfl (fun w => run_eqi w _ _ _ _ _ _) (vbool (beqT (by first | assumption | omega)))) ?_
      refine RG.nil (by kernel_rfl) ?_
      repeat (first | refine js ?_ | refine jb ?_)
      refine WpD.condT rfl ?_
      repeat (first | refine js ?_ | refine jb ?_)
      refine WpD.skip ?_
      repeat (first | refine js ?_ | refine jb ?_)
      refine jr ?_
      refine jm rfl ?_
      refine jm rfl ?_
      refine jS (ru_lenA rfl CSlice.ok) ?_
      refine jS (rt_bin_to rfl rfl (fun w => run_subi w _ _ _ _ _ _) (vint e5)) ?_
      refine jS (ru_sliceHA rfl rfl (by omega) (by omega)) ?_
      refine ja rfl ?_
      refine RG.nil (by kernel_rfl) ?_
      refine ⟨⟨j - 1, by omega, by omega⟩, ?_, by dsimp only; omega⟩
      refine Sub.mk ?_ ?_
      · repeat (first | exact trivial | refine jv rfl ?_ | refine jw rfl (js0 rfl) ?_ | refine jw rfl ⟨js0 rfl, js0 rfl⟩ ?_ | refine jx rfl ⟨js0 rfl, js0 rfl⟩ ?_ | refine jw rfl (clo_live (js0 rfl) (js0 rfl)) ?_ | refine ⟨⟨_, rfl, PLe.refl _⟩, trivial, ?_⟩)
      · repeat (first | exact trivial | refine jz ?_ | refine jy rfl ?_)
    · have hjk : j = k := by omega
      subst hjk
      have hdz : ((dgt n (j - 1) : Nat) : Int) ≠ 48 := by
        unfold dgt
        have hq1 : 1 ≤ n / 10 ^ (j - 1) := (Nat.le_div_iff_mul_le hpos).2 (by omega)
        have hq2 : n / 10 ^ (j - 1) < 10 := by
          rw [Nat.div_lt_iff_lt_mul hpos]
          have : 10 ^ j = 10 * 10 ^ (j - 1) := by rw [← Nat.pow_succ']; congr 1; omega
          omega
        rw [Nat.mod_eq_of_lt hq2]; omega
      repeat (first | refine js ?_ | refine jb ?_)
      refine jr ?_
      refine jm rfl ?_
      refine jm rfl ?_
      refine jS (ru_lenA rfl CSlice.ok) ?_
      refine jS (rt_bin_to rfl rfl (fun w => run_subi w _ _ _ _ _ _) (vint e5)) ?_
      refine jS (ru_indexA rfl rfl (by omega) (o := j - 1) (by omega)) ?_
      refine jS (ru_load1 rfl rfl (by assumption)) ?_
      refine jS (rt_bin_to rfl rfl (fun w => run_eqi w _ _ _ _ _ _) (vbool (beqF (by first | assumption | omega)))) ?_
      refine RG.nil (by kernel_rfl) ?_
      repeat (first | refine js ?_ | refine jb ?_)
      refine WpD.condF rfl ?_
      repeat (first | refine js ?_ | refine jb ?_)
      refine WpD.exit ?_
      repeat (first | refine js ?_ | refine jb ?_)
      have hps : PsLe ((dgts n 9).map byt) ((dgts n j).map byt) := by
        have := PsLe.take ((dgts n 9).map byt) j
        rwa [← List.map_take, dgts_take n hj2] at this
      refine WpD.sub (τ := ⟨[(1, .ptr 1 0), (4, .app 504 1 j)], [(1, [ex (.bool sb), mag [n]]), (504, (dgts n j).map byt), (754, [])]⟩) ?_ ?_
      · refine Sub.mk ?_ ⟨.inl ⟨_, rfl, PsLe.refl _⟩, .inl ⟨_, rfl, hps⟩, .inr rfl, trivial⟩
        repeat (first | exact trivial | refine jv rfl ?_ | refine jw rfl (js0 rfl) ?_ | refine jw rfl ⟨js0 rfl, js0 rfl⟩ ?_ | refine jx rfl ⟨js0 rfl, js0 rfl⟩ ?_ | refine jw rfl (clo_live (js0 rfl) (js0 rfl)) ?_ | refine ⟨⟨_, rfl, PLe.refl _⟩, trivial, ?_⟩)
      have hlen : ((dgts n j).map byt).length = j * 1 := by simp [dgts_len]
      cases sb with
      | true =>
        have hL : (dgts n j ++ [45]).length = j + 1 := by simp [dgts_len]
        have hr2 : (dgts n j).map byt ++ [ex (.int .u8 45)] = (dgts n j ++ [45]).map byt := by rw [List.map_append]; rfl
        have C7 := breverse En (dgts n j ++ [45]) (j + 1) (by omega)
        rw [hL] at C7
        have hL2 : (dgts n j ++ [45]).reverse.length = j + 1 := by simp [dgts_len]
        repeat (first | refine js ?_ | refine jb ?_)
        refine jr ?_
        refine jS (ru_fieldAddr rfl rfl) ?_
        refine jS (ru_load1 rfl rfl rfl) ?_
        refine RG.nil (by kernel_rfl) ?_
        repeat (first | refine js ?_ | refine jb ?_)
        refine WpD.condT rfl ?_
        repeat (first | refine js ?_ | refine jb ?_)
        refine jr ?_
        refine jm rfl ?_
        refine jS (rc_buildR (ps := [(_, _)]) ⟨rfl, Part.c rfl, trivial⟩ rfl rfl rfl) ?_
        refine RG.SW (LT.plain rfl (ru_appendA 548 rfl rfl hlen rfl (by omega) (by omega) rfl rfl rfl rfl rfl hr2)) rfl ?_
        refine ja rfl ?_
        refine RG.nil (by kernel_rfl) ?_
        repeat (first | refine js ?_ | refine jb ?_)
        refine WpD.sub (τ := ⟨[(4, .own 400 0 (j + 1) (j + 1))], [(400, (dgts n j ++ [45]).map byt)]⟩) ?_ ?_
        · refine Sub.ren 400 548 rfl ?_ ?_ rfl
          · repeat (first | exact trivial | refine ⟨.inl ⟨⟨_, rfl, PLe.refl _⟩, trivial, trivial⟩, ?_⟩ | refine ⟨.inr ⟨_, _, rfl, .inl rfl, ⟨Option.some_ne_none _, Option.some_ne_none _⟩⟩, ?_⟩ | refine ⟨.inl ⟨⟨_, rfl, rfl⟩, Option.some_ne_none _, ⟨(by decide), (by decide)⟩⟩, ?_⟩ | refine ⟨.inl ⟨⟨_, rfl, rfl⟩, ⟨Option.some_ne_none _, Option.some_ne_none _⟩, ⟨(by decide), (by decide), (by decide), (by decide)⟩⟩, ?_⟩ | refine ⟨.inl ⟨⟨_, rfl, rfl⟩, clo_live (Option.some_ne_none _) (Option.some_ne_none _), clo_avoid (by decide) (by decide) (by decide) (by decide)⟩, ?_⟩ | refine ⟨.inr ⟨_, _, rfl, .inr ⟨(by omega), rfl⟩, Option.some_ne_none _⟩, ?_⟩)
          · repeat (first | exact trivial | refine ⟨.inr ⟨(by decide), .inr rfl⟩, ?_⟩ | refine ⟨.inl ⟨rfl, _, rfl, PsLe.refl _⟩, ?_⟩ | refine ⟨.inr ⟨(by decide), .inl ⟨(by decide), _, rfl, PsLe.refl _⟩⟩, ?_⟩)

        repeat (first | refine js ?_ | refine jb ?_)
        refine jr ?_
        refine jm rfl ?_
        refine jT (ru_callM (fun _ => 400) C7 ⟨⟨rfl, Option.some_ne_none _⟩, trivial⟩ ⟨rfl, trivial⟩ rfl rfl rfl) ?_
        refine RG.nil (by kernel_rfl) ?_
        repeat (first | refine js ?_ | refine jb ?_)
        refine jr ?_
        refine jm rfl ?_
        refine jS (ru_strO Tryz.underlying112 Tryz.underlying5 Tryz.underlying9 rfl rfl hL2 (by omega)) ?_
        refine ja rfl ?_
        refine RG.nil (by kernel_rfl) ?_
        repeat (first | refine js ?_ | refine jb ?_)
        refine WpD.ret ?_
        exact ret1 rfl (.tmp rfl) (PLe.refl _)
      | false =>
        have hL : (dgts n j).length = j := dgts_len n j
        have C7 := breverse En (dgts n j) j (by omega)
        rw [hL] at C7
        have hL2 : (dgts n j).reverse.length = j := by simp [dgts_len]
        have hfin : (dgts n j ++ (if (false : Bool) = true then [45] else [])).reverse = (dgts n j).reverse := by simp
        rw [hfin]

        repeat (first | refine js ?_ | refine jb ?_)
        refine jr ?_
        refine jS (ru_fieldAddr rfl rfl) ?_
        refine jS (ru_load1 rfl rfl rfl) ?_
        refine RG.nil (by kernel_rfl) ?_
        repeat (first | refine js ?_ | refine jb ?_)
        refine WpD.condF rfl ?_
        repeat (first | refine js ?_ | refine jb ?_)
        refine WpD.skip ?_
        repeat (first | refine js ?_ | refine jb ?_)
        refine WpD.sub (τ := ⟨[(4, .own 400 0 j j)], [(400, (dgts n j).map byt)]⟩) ?_ ?_
        · refine Sub.ren 400 504 rfl ?_ ?_ rfl
          · repeat (first | exact trivial | refine ⟨.inl ⟨⟨_, rfl, PLe.refl _⟩, trivial, trivial⟩, ?_⟩ | refine ⟨.inr ⟨_, _, rfl, .inl rfl, ⟨Option.some_ne_none _, Option.some_ne_none _⟩⟩, ?_⟩ | refine ⟨.inl ⟨⟨_, rfl, rfl⟩, Option.some_ne_none _, ⟨(by decide), (by decide)⟩⟩, ?_⟩ | refine ⟨.inl ⟨⟨_, rfl, rfl⟩, ⟨Option.some_ne_none _, Option.some_ne_none _⟩, ⟨(by decide), (by decide), (by decide), (by decide)⟩⟩, ?_⟩ | refine ⟨.inl ⟨⟨_, rfl, rfl⟩, clo_live (Option.some_ne_none _) (Option.some_ne_none _), clo_avoid (by decide) (by decide) (by decide) (by decide)⟩, ?_⟩ | refine ⟨.inr ⟨_, _, rfl, .inr ⟨(by omega), rfl⟩, Option.some_ne_none _⟩, ?_⟩)
          · repeat (first | exact trivial | refine ⟨.inr ⟨(by decide), .inr rfl⟩, ?_⟩ | refine ⟨.inl ⟨rfl, _, rfl, PsLe.refl _⟩, ?_⟩ | refine ⟨.inr ⟨(by decide), .inl ⟨(by decide), _, rfl, PsLe.refl _⟩⟩, ?_⟩)

        repeat (first | refine js ?_ | refine jb ?_)
        refine jr ?_
        refine jm rfl ?_
        refine jT (ru_callM (fun _ => 400) C7 ⟨⟨rfl, Option.some_ne_none _⟩, trivial⟩ ⟨rfl, trivial⟩ rfl rfl rfl) ?_
        refine RG.nil (by kernel_rfl) ?_
        repeat (first | refine js ?_ | refine jb ?_)
        refine jr ?_
        refine jm rfl ?_
        refine jS (ru_strO Tryz.underlying112 Tryz.underlying5 Tryz.underlying9 rfl rfl hL2 (by omega)) ?_
        refine ja rfl ?_
        refine RG.nil (by kernel_rfl) ?_
        repeat (first | refine js ?_ | refine jb ?_)
        refine WpD.ret ?_
        exact ret1 rfl (.tmp rfl) (PLe.refl _)
  · dsimp only [cond]

    repeat (first | refine js ?_ | refine jb ?_)
    refine jr ?_
    refine jm rfl ?_
    refine jS (ru_lenO rfl CSlice.ok) ?_
    refine jS (rt_bin_to rfl rfl (fun w => run_gti w _ _ _ _ _ _) (vbool (decide_eq_true (by first | assumption | omega)))) ?_
    refine RG.nil (by kernel_rfl) ?_
    repeat (first | refine js ?_ | refine jb ?_)
    refine WpD.condT rfl ?_
    repeat (first | refine js ?_ | refine jb ?_)
    refine WpD.skip ?_
    repeat (first | refine js ?_ | refine jb ?_)
    refine jr ?_
    refine jm rfl ?_
    refine jT (ru_callM (fun _ => 9) C3 ⟨⟨rfl, Option.some_ne_none _⟩, rfl, trivial⟩ ⟨rfl, trivial⟩ rfl rfl rfl) ?_
    refine ja rfl ?_
    refine RG.nil (by kernel_rfl) ?_
    repeat (first | refine js ?_ | refine jb ?_)
    refine WpD.sub (τ := ⟨[(1, .ptr 1 0), (3, .one (mag [0])), (4, .one (ex (.slice none 0 0))), (5, .one (lb n))], [(1, [ex (.bool sb), mag [n]])]⟩) ?_ ?_
    · refine Sub.pub 9 rfl rfl ?_ ?_ rfl
      · repeat (first | exact trivial | refine ⟨.inl ⟨⟨_, rfl, PLe.refl _⟩, trivial⟩, ?_⟩ | refine ⟨.inl ⟨⟨_, rfl, rfl⟩, Option.some_ne_none _⟩, ?_⟩ | refine ⟨.inl ⟨⟨_, rfl, rfl⟩, ⟨Option.some_ne_none _, Option.some_ne_none _⟩⟩, ?_⟩ | refine ⟨.inr (.inl ⟨_, _, _, _, rfl, rfl, hp0⟩), ?_⟩ | refine ⟨.inr (.inr (.inl ⟨_, _, _, rfl, rfl, hp0⟩)), ?_⟩)
      · repeat (first | exact trivial | refine jz ?_ | refine jy rfl ?_)

    repeat (first | refine js ?_ | refine jb ?_)
    refine jr ?_
    refine jm rfl ?_
    refine jS (ru_call C4 ⟨rfl, trivial⟩) ?_
    refine ja rfl ?_
    refine RG.nil (by kernel_rfl) ?_
    repeat (first | refine js ?_ | refine jb ?_)
    refine jr ?_
    refine jm rfl ?_
    refine RG.nil (by kernel_rfl) ?_
    repeat (first | refine js ?_ | refine jb ?_)
    refine WpD.loop (α := {i : Nat // i ≤ 9}) (fun i => ⟨[(1, .ptr 1 0), (3, .one (mag [])), (4, .app 504 1 i.1), (5, .one (lb (n / 10 ^ i.1))), (20, .one (ex (.int .i64 ((i.1 : Nat) : Int))))], [(1, [ex (.bool sb), mag [n]]), (504, (dgts n i.1).map byt), (754, [])]⟩) (fun i => 9 - i.1) ⟨0, by omega⟩ ?_ ?_
    · dsimp only
      rw [e00]
      refine Sub.mk ?_ ?_
      · repeat (first | exact trivial | refine jv rfl ?_ | refine jw rfl (js0 rfl) ?_ | refine jw rfl ⟨js0 rfl, js0 rfl⟩ ?_ | refine jx rfl ⟨js0 rfl, js0 rfl⟩ ?_ | refine jw rfl (clo_live (js0 rfl) (js0 rfl)) ?_ | refine ⟨⟨_, rfl, PLe.refl _⟩, trivial, ?_⟩)
      · repeat (first | exact trivial | refine jz ?_ | refine jy rfl ?_)
    rintro ⟨i, hi⟩
    dsimp only at hi ⊢
    by_cases hi9 : i < 9
    · have e1 : ((n / 10 ^ i : Nat) : Int).tmod 10 = ((n / 10 ^ i % 10 : Nat) : Int) := (Int.ofNat_tmod _ 10).symm
      have hlt : n / 10 ^ i % 10 < 10 := Nat.mod_lt _ (by omega)
      have e2 : IntKind.u32.wrap (48 + ((n / 10 ^ i % 10 : Nat) : Int)) = ((dgt n i : Nat) : Int) := by rw [IntKind.wrap_u32]; unfold dgt; omega
      have e3 : IntKind.u8.wrap ((dgt n i : Nat) : Int) = ((dgt n i : Nat) : Int) := by unfold dgt; rw [IntKind.wrap_u8]; omega
      have hq : n / 10 ^ i / 10 = n / 10 ^ (i + 1) := by rw [Nat.div_div_eq_div_mul, Nat.pow_succ]
      have hle : n / 10 ^ (i + 1) ≤ n := Nat.div_le_self _ _
      have e4 : IntKind.u32.wrap (((n / 10 ^ i : Nat) : Int).tdiv 10) = ((n / 10 ^ (i + 1) : Nat) : Int) := by
        rw [show ((n / 10 ^ i : Nat) : Int).tdiv 10 = ((n / 10 ^ i / 10 : Nat) : Int) from (Int.ofNat_tdiv _ 10).symm, hq, IntKind.wrap_u32]
        have h0 := Int.natCast_nonneg (n / 10 ^ (i + 1))
        have h1 : ((n / 10 ^ (i + 1) : Nat) : Int) ≤ (n : Int) := by exact_mod_cast hle
        generalize ((n / 10 ^ (i + 1) : Nat) : Int) = q at h0 h1 ⊢
        omega
      have e6 : IntKind.i64.wrap ((i : Int) + 1) = ((i + 1 : Nat) : Int) := by rw [w64 (by omega) (by omega)]; rfl
      have hlen : ((dgts n i).map byt).length = i * 1 := by simp [dgts_len]
      have hr : (dgts n i).map byt ++ [ex (.int .u8 ((dgt n i : Nat) : Int))] = (dgts n (i + 1)).map byt := by rw [dgts_succ, List.map_append]; rfl
      repeat (first | refine js ?_ | refine jb ?_)
      refine jr ?_
      refine jS (rt_bin_to rfl rfl (fun w => run_lti w _ _ _ _ _ _) (vbool (decide_eq_true (by first | assumption | omega)))) ?_
      refine RG.nil (by kernel_rfl) ?_
      repeat (first | refine js ?_ | refine jb ?_)
      refine WpD.condT rfl ?_
      repeat (first | refine js ?_ | refine jb ?_)
      refine WpD.skip ?_
      repeat (first | refine js ?_ | refine jb ?_)
      refine jr ?_
      refine jm rfl ?_
      refine jm rfl ?_
      refine jS (rt_bin_to rfl rfl (fun w => run_remi w _ _ _ _ _ _ (by first | decide | omega | assumption)) (vint e1)) ?_
      refine jS (rt_bin_to rfl rfl (fun w => run_addi w _ _ _ _ _ _) (vint e2)) ?_
      refine jS (rt_conv_to rfl (fun w => run_convi w CInt.ok CInt.ok _ _) (vint e3)) ?_
      refine jS (rc_buildR (ps := [(_, _)]) ⟨rfl, Part.c rfl, trivial⟩ rfl rfl rfl) ?_
      refine RG.SW (LT.plain rfl (ru_appendA 528 rfl rfl hlen rfl (by omega) (by omega) rfl rfl rfl rfl rfl hr)) rfl ?_
      refine ja rfl ?_
      refine RG.nil (by kernel_rfl) ?_
      repeat (first | refine js ?_ | refine jb ?_)
      refine jr ?_
      refine jm rfl ?_
      refine jS (rt_bin_to rfl rfl (fun w => run_quoi w _ _ _ _ _ _ (by first | decide | omega | assumption)) (vint e4)) ?_
      refine ja rfl ?_
      refine RG.nil (by kernel_rfl) ?_
      repeat (first | refine js ?_ | refine jb ?_)
      refine jr ?_
      refine jS (rt_bin_to rfl rfl (fun w => run_addi w _ _ _ _ _ _) (vint e6)) ?_
      refine jm rfl ?_
      refine RG.nil (by kernel_rfl) ?_
      refine ⟨⟨i + 1, by omega⟩, ?_, by dsimp only; omega⟩
      refine Sub.ren 504 528 rfl ?_ ?_ rfl
      · repeat (first | exact trivial | refine ⟨.inl ⟨⟨_, rfl, PLe.refl _⟩, trivial, trivial⟩, ?_⟩ | refine ⟨.inr ⟨_, _, rfl, .inl rfl, ⟨Option.some_ne_none _, Option.some_ne_none _⟩⟩, ?_⟩ | refine ⟨.inl ⟨⟨_, rfl, rfl⟩, Option.some_ne_none _, ⟨(by decide), (by decide)⟩⟩, ?_⟩ | refine ⟨.inl ⟨⟨_, rfl, rfl⟩, ⟨Option.some_ne_none _, Option.some_ne_none _⟩, ⟨(by decide), (by decide), (by decide), (by decide)⟩⟩, ?_⟩ | refine ⟨.inl ⟨⟨_, rfl, rfl⟩, clo_live (Option.some_ne_none _) (Option.some_ne_none _), clo_avoid (by decide) (by decide) (by decide) (by decide)⟩, ?_⟩ | refine ⟨.inr ⟨_, _, rfl, .inr ⟨(by omega), rfl⟩, Option.some_ne_none _⟩, ?_⟩)
      · repeat (first | exact trivial | refine ⟨.inr ⟨(by decide), .inr rfl⟩, ?_⟩ | refine ⟨.inl ⟨rfl, _, rfl, PsLe.refl _⟩, ?_⟩ | refine ⟨.inr ⟨(by decide), .inl ⟨(by decide), _, rfl, PsLe.refl _⟩⟩, ?_⟩)
    · have hi9 : i = 9 := by omega
      subst hi9
      repeat (first | refine js ?_ | refine jb ?_)
      refine jr ?_
      refine jS (rt_bin_to rfl rfl (fun w => run_lti w _ _ _ _ _ _) (vbool (decide_eq_false (by first | assumption | omega)))) ?_
      refine RG.nil (by kernel_rfl) ?_
      repeat (first | refine js ?_ | refine jb ?_)
      refine WpD.condF rfl ?_
      repeat (first | refine js ?_ | refine jb ?_)
      refine WpD.exit ?_
      refine ⟨false, ?_, by decide⟩
      dsimp only [cond]
      refine Sub.mk ?_ ?_
      · repeat (first | exact trivial | refine jv rfl ?_ | refine jw rfl (js0 rfl) ?_ | refine jw rfl ⟨js0 rfl, js0 rfl⟩ ?_ | refine jx rfl ⟨js0 rfl, js0 rfl⟩ ?_ | refine jw rfl (clo_live (js0 rfl) (js0 rfl)) ?_ | refine ⟨⟨_, rfl, PLe.refl _⟩, trivial, ?_⟩)
      · repeat (first | exact trivial | refine jz ?_ | refine jy rfl ?_)
end
end Go.Proofs.YtpiflllcjgpkhaaGreatDoor

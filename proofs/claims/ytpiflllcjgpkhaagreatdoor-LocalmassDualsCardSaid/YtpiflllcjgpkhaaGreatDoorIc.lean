/- Integers of the program: Neg, Add, Sub, Gcd. -/
import Derived.Test.YtpiflllcjgpkhaaGreatDoorIb
import Derived.Test.YtpiflllcjgpkhaaGreatDoorQ
set_option maxRecDepth 3000
namespace Go.Proofs.YtpiflllcjgpkhaaGreatDoor
open Go.RowKit Limb
instance cbody91 : CBody Tryz.prog 91 := ⟨⟨_, Tryz.func91, rfl, by rfl⟩⟩
instance cbody121 : CBody Tryz.prog 121 := ⟨⟨_, Tryz.func121, rfl, by rfl⟩⟩
instance cbody141 : CBody Tryz.prog 141 := ⟨⟨_, Tryz.func141, rfl, by rfl⟩⟩
instance cbody117 : CBody Tryz.prog 117 := ⟨⟨_, Tryz.func117, rfl, by rfl⟩⟩
instance cbody90 : CBody Tryz.prog 90 := ⟨⟨_, Tryz.func90, rfl, by rfl⟩⟩
theorem sgnZ_add (s : Bool) (x y : Nat) : sgnZ s x + sgnZ s y = sgnZ s (x + y) := by unfold sgnZ; cases s <;> simp <;> omega
theorem sgnZ_sub {s : Bool} {x y : Nat} (h : y ≤ x) : sgnZ s x + sgnZ (!s) y = sgnZ s (x - y) := by unfold sgnZ; cases s <;> simp <;> omega
theorem sgnZ_sub' {s : Bool} {x y : Nat} (h : x ≤ y) : sgnZ s x + sgnZ (!s) y = sgnZ (!s) (y - x) := by unfold sgnZ; cases s <;> simp <;> omega
theorem sgnZ_not (s : Bool) (x : Nat) : sgnZ (!s) x = -sgnZ s x := by unfold sgnZ; cases s <;> simp
section
variable (En : Ev)
theorem iaddS (s : Bool) (x : Nat) (t : Bool) (y : Nat) (hx : (digs x).length ≤ 274877906944) (hy : (digs y).length ≤ 274877906944) :
    Fn Tryz.prog En 141 [ex (.bool s), mag (digs x), ex (.bool t), mag (digs y)] (zC (sgnZ s x + sgnZ t y)) := by
  by_cases hst : s = t
  · subst hst
    rw [sgnZ_add]
    have C1 := nadd En (digs x) (digs y) (by omega) (by omega) (lm_digs _) (lm_digs _)
    rw [val_digs, val_digs] at C1
    have hb : (s == s) = true := by simp
    refine fn_of_body Tryz.func141 rfl Tryz.ntmps141 rfl ?_
    intro w0 h0
    repeat (first | refine js ?_ | refine jb ?_)
    refine jr ?_
    refine jT (ru_alloc rfl rfl rfl) ?_
    refine RG.nil (by kernel_rfl) ?_
    repeat (first | refine js ?_ | refine jb ?_)
    refine jr ?_
    refine jm rfl ?_
    refine jm rfl ?_
    refine jS (rt_bin_to rfl rfl (fun w => run_eqb w CBool.ok _ _ _ _) (vbool hb)) ?_
    refine ja rfl ?_
    refine RG.nil (by kernel_rfl) ?_
    repeat (first | refine js ?_ | refine jb ?_)
    refine WpD.condT rfl ?_
    repeat (first | refine js ?_ | refine jb ?_)
    refine jr ?_
    refine jm rfl ?_
    refine jm rfl ?_
    refine jm rfl ?_
    refine jS (ru_call C1 ⟨rfl, rfl, trivial⟩) ?_
    refine jS (ru_call (ibuild En s (x + y)) ⟨rfl, rfl, trivial⟩) ?_
    refine jO (ru_storeR rfl rfl rfl rfl rfl rfl) ?_
    refine RG.nil (by kernel_rfl) ?_
    repeat (first | refine js ?_ | refine jb ?_)
    refine WpD.ret ?_
    exact ret1 rfl (.cell rfl rfl CRow.ok rfl) (PLe.refl _)
  · have ht : t = !s := by cases s <;> cases t <;> simp_all
    subst ht
    have hb : (s == !s) = false := by simp
    have C0 := ncompare En (digs x) (digs y) (by omega) (lm_digs _) (lm_digs _)
    rw [cmpL_digs] at C0
    by_cases h : y ≤ x
    · rw [sgnZ_sub h]
      have C1 := nsub En (digs x) (digs y) (by omega) (digs_mono h) (lm_digs _) (lm_digs _) (by rw [val_digs, val_digs]; exact h)
      rw [val_digs, val_digs] at C1
      have hc : (if x < y then -1 else if y < x then 1 else 0 : Int) ≥ 0 := by repeat' split <;> omega
      refine fn_of_body Tryz.func141 rfl Tryz.ntmps141 rfl ?_
      intro w0 h0
      repeat (first | refine js ?_ | refine jb ?_)
      refine jr ?_
      refine jT (ru_alloc rfl rfl rfl) ?_
      refine RG.nil (by kernel_rfl) ?_
      repeat (first | refine js ?_ | refine jb ?_)
      refine jr ?_
      refine jm rfl ?_
      refine jm rfl ?_
      refine jS (rt_bin_to rfl rfl (fun w => run_eqb w CBool.ok _ _ _ _) (vbool hb)) ?_
      refine ja rfl ?_
      refine RG.nil (by kernel_rfl) ?_
      repeat (first | refine js ?_ | refine jb ?_)
      refine WpD.condF rfl ?_
      repeat (first | refine js ?_ | refine jb ?_)
      refine jr ?_
      refine jm rfl ?_
      refine jm rfl ?_
      refine jS (ru_call C0 ⟨rfl, rfl, trivial⟩) ?_
      refine jS (rt_bin_to rfl rfl (fun w => run_gei w _ _ _ _ _ _) (vbool (decide_eq_true (by first | assumption | omega)))) ?_
      refine ja rfl ?_
      refine RG.nil (by kernel_rfl) ?_
      repeat (first | refine js ?_ | refine jb ?_)
      refine WpD.condT rfl ?_
      repeat (first | refine js ?_ | refine jb ?_)
      refine jr ?_
      refine jm rfl ?_
      refine jm rfl ?_
      refine jm rfl ?_
      refine jS (ru_call C1 ⟨rfl, rfl, trivial⟩) ?_
      refine jS (ru_call (ibuild En s (x - y)) ⟨rfl, rfl, trivial⟩) ?_
      refine jO (ru_storeR rfl rfl rfl rfl rfl rfl) ?_
      refine RG.nil (by kernel_rfl) ?_
      repeat (first | refine js ?_ | refine jb ?_)
      refine WpD.ret ?_
      exact ret1 rfl (.cell rfl rfl CRow.ok rfl) (PLe.refl _)
    · rw [sgnZ_sub' (by omega)]
      have C1 := nsub En (digs y) (digs x) (by omega) (digs_mono (by omega)) (lm_digs _) (lm_digs _) (by rw [val_digs, val_digs]; omega)
      rw [val_digs, val_digs] at C1
      have hc : ¬ (if x < y then -1 else if y < x then 1 else 0 : Int) ≥ 0 := by rw [if_pos (by omega)]; omega
      refine fn_of_body Tryz.func141 rfl Tryz.ntmps141 rfl ?_
      intro w0 h0
      repeat (first | refine js ?_ | refine jb ?_)
      refine jr ?_
      refine jT (ru_alloc rfl rfl rfl) ?_
      refine RG.nil (by kernel_rfl) ?_
      repeat (first | refine js ?_ | refine jb ?_)
      refine jr ?_
      refine jm rfl ?_
      refine jm rfl ?_
      refine jS (rt_bin_to rfl rfl (fun w => run_eqb w CBool.ok _ _ _ _) (vbool hb)) ?_
      refine ja rfl ?_
      refine RG.nil (by kernel_rfl) ?_
      repeat (first | refine js ?_ | refine jb ?_)
      refine WpD.condF rfl ?_
      repeat (first | refine js ?_ | refine jb ?_)
      refine jr ?_
      refine jm rfl ?_
      refine jm rfl ?_
      refine jS (ru_call C0 ⟨rfl, rfl, trivial⟩) ?_
      refine jS (rt_bin_to rfl rfl (fun w => run_gei w _ _ _ _ _ _) (vbool (decide_eq_false (by first | assumption | omega)))) ?_
      refine ja rfl ?_
      refine RG.nil (by kernel_rfl) ?_
      repeat (first | refine js ?_ | refine jb ?_)
      refine WpD.condF rfl ?_
      repeat (first | refine js ?_ | refine jb ?_)
      refine WpD.skip ?_
      repeat (first | refine js ?_ | refine jb ?_)
      refine jr ?_
      refine jm rfl ?_
      refine jm rfl ?_
      refine jm rfl ?_
      refine jS (ru_call C1 ⟨rfl, rfl, trivial⟩) ?_
      refine jS (ru_call (ibuild En (!s) (y - x)) ⟨rfl, rfl, trivial⟩) ?_
      refine jO (ru_storeR rfl rfl rfl rfl rfl rfl) ?_
      refine RG.nil (by kernel_rfl) ?_
      repeat (first | refine js ?_ | refine jb ?_)
      refine WpD.ret ?_
      exact ret1 rfl (.cell rfl rfl CRow.ok rfl) (PLe.refl _)
theorem ineg (s : Bool) (l : List Nat) (hl : Lm l) (hlen : l.length ≤ 274877906944) : Fn Tryz.prog En 91 [zR s l] (zC (-(zv s l))) := by
  have C1 := ntrim En l hl (by omega)
  have D1 := digs_lenle hlen hl
  unfold zv
  generalize val l = x at *
  rw [← sgnZ_not]
  refine fn_of_body Tryz.func91 rfl Tryz.ntmps91 rfl ?_
  intro w0 h0
  repeat (first | refine js ?_ | refine jb ?_)
  refine jr ?_
  refine jT (ru_boxR rfl rfl rfl) ?_
  refine jT (ru_alloc rfl rfl rfl) ?_
  refine RG.nil (by kernel_rfl) ?_
  repeat (first | refine js ?_ | refine jb ?_)
  refine jr ?_
  refine jS (ru_fieldAddr rfl rfl) ?_
  refine jS (ru_load1 rfl rfl rfl) ?_
  refine jS (rt_un rfl (fun w => run_not w _)) ?_
  refine jS (ru_fieldAddr rfl rfl) ?_
  refine jS (ru_load1 rfl rfl rfl) ?_
  refine jS (ru_call C1 ⟨rfl, trivial⟩) ?_
  refine jS (ru_call (nclone En (digs x) (lm_digs _) (by omega)) ⟨rfl, trivial⟩) ?_
  refine jS (ru_call (ibuild En (!s) x) ⟨rfl, rfl, trivial⟩) ?_
  refine jO (ru_storeR rfl rfl rfl rfl rfl rfl) ?_
  refine RG.nil (by kernel_rfl) ?_
  repeat (first | refine js ?_ | refine jb ?_)
  refine WpD.ret ?_
  exact ret1 rfl (.cell rfl rfl CRow.ok rfl) (PLe.refl _)
theorem iadd (s : Bool) (l : List Nat) (s' : Bool) (l' : List Nat) (hl : Lm l) (hl' : Lm l') (hlen : l.length ≤ 274877906944) (hlen' : l'.length ≤ 274877906944) :
    Fn Tryz.prog En 121 [zR s l, zR s' l'] (zC (zv s l + zv s' l')) := by
  have C1 := ntrim En l hl (by omega)
  have C2 := ntrim En l' hl' (by omega)
  have D1 := digs_lenle hlen hl
  have D2 := digs_lenle hlen' hl'
  unfold zv
  refine fn_of_body Tryz.func121 rfl Tryz.ntmps121 rfl ?_
  intro w0 h0
  repeat (first | refine js ?_ | refine jb ?_)
  refine jr ?_
  refine jT (ru_boxR rfl rfl rfl) ?_
  refine jT (ru_boxR rfl rfl rfl) ?_
  refine jT (ru_alloc rfl rfl rfl) ?_
  refine RG.nil (by kernel_rfl) ?_
  repeat (first | refine js ?_ | refine jb ?_)
  refine jr ?_
  refine jS (ru_fieldAddr rfl rfl) ?_
  refine jS (ru_load1 rfl rfl rfl) ?_
  refine jS (ru_fieldAddr rfl rfl) ?_
  refine jS (ru_load1 rfl rfl rfl) ?_
  refine jS (ru_call C1 ⟨rfl, trivial⟩) ?_
  refine jS (ru_fieldAddr rfl rfl) ?_
  refine jS (ru_load1 rfl rfl rfl) ?_
  refine jS (ru_fieldAddr rfl rfl) ?_
  refine jS (ru_load1 rfl rfl rfl) ?_
  refine jS (ru_call C2 ⟨rfl, trivial⟩) ?_
  refine jS (ru_call (iaddS En s _ s' _ D1 D2) ⟨rfl, rfl, rfl, rfl, trivial⟩) ?_
  refine jO (ru_storeR rfl rfl rfl rfl rfl rfl) ?_
  refine RG.nil (by kernel_rfl) ?_
  repeat (first | refine js ?_ | refine jb ?_)
  refine WpD.ret ?_
  exact ret1 rfl (.cell rfl rfl CRow.ok rfl) (PLe.refl _)
theorem gcd_step (u v : Nat) : Nat.gcd v (u % v) = Nat.gcd u v := by rw [Nat.gcd_comm v, ← Nat.gcd_rec, Nat.gcd_comm]
theorem digs0 {v : Nat} : (digs v).length = 0 ↔ v = 0 := by
  constructor
  · intro h
    by_cases hv : v = 0
    · exact hv
    · rw [digs_step hv] at h; simp at h
  · rintro rfl; rfl
set_option maxHeartbeats 1000000 in
theorem ngcd (x y : Nat) (hx : (digs x).length ≤ 274877906944) (hy : (digs y).length ≤ 274877906944) : Fn Tryz.prog En 117 [mag (digs x), mag (digs y)] (mag (digs (Nat.gcd x y))) := by
  refine fn_of_body Tryz.func117 rfl Tryz.ntmps117 rfl ?_
  intro w0 h0
  repeat (first | refine js ?_ | refine jb ?_)
  refine jr ?_
  refine ja rfl ?_
  refine RG.nil (by kernel_rfl) ?_
  repeat (first | refine js ?_ | refine jb ?_)
  refine WpD.loop (α := {p : Nat × Nat // Nat.gcd p.1 p.2 = Nat.gcd x y ∧ (digs p.1).length ≤ 274877906944 ∧ (digs p.2).length ≤ 274877906944}) (fun p => ⟨[(0, .one (mag (digs p.1.1))), (1, .one (mag (digs p.1.2)))], []⟩) (fun p => p.1.2) ⟨(x, y), rfl, hx, hy⟩ ?_ ?_
  · refine Sub.mk ?_ ?_
    · repeat (first | exact trivial | refine jv rfl ?_ | refine jw rfl (js0 rfl) ?_ | refine jw rfl ⟨js0 rfl, js0 rfl⟩ ?_ | refine jx rfl ⟨js0 rfl, js0 rfl⟩ ?_ | refine jw rfl (clo_live (js0 rfl) (js0 rfl)) ?_ | refine ⟨⟨_, rfl, PLe.refl _⟩, trivial, ?_⟩)
    · repeat (first | exact trivial | refine jz ?_ | refine jy rfl ?_)
  rintro ⟨⟨u, v⟩, hg, hu, hv⟩
  dsimp only at hg hu hv ⊢
  have next : v ≠ 0 → ∃ p : {p : Nat × Nat // Nat.gcd p.1 p.2 = Nat.gcd x y ∧ (digs p.1).length ≤ 274877906944 ∧ (digs p.2).length ≤ 274877906944}, p.1 = (v, u % v) ∧ u % v < v := fun hv0 => by
    have hlt := Nat.mod_lt u (Nat.pos_of_ne_zero hv0)
    exact ⟨⟨(v, u % v), by rw [gcd_step]; exact hg, hv, Nat.le_trans (digs_mono (Nat.le_of_lt hlt)) hv⟩, rfl, hlt⟩
  have C4 := fun hv0 : v ≠ 0 => ndiv En u v (by omega) hv0
  unfold DivP at C4
  by_cases h1 : (digs u).length > 2
  · by_cases h3 : (digs v).length = 0
    · have hv0 := digs0.1 h3
      subst hv0
      have : u = Nat.gcd x y := by simpa using hg
      rw [← this]
      repeat (first | refine js ?_ | refine jb ?_)
      refine jr ?_
      refine jm rfl ?_
      refine jS (ru_len rfl CSlice.ok) ?_
      refine jS (rt_bin_to rfl rfl (fun w => run_gti w _ _ _ _ _ _) (vbool (decide_eq_true (by first | assumption | omega)))) ?_
      refine jm rfl ?_
      refine RG.S0 (LT.skip rfl rfl rfl) ?_
      refine RG.S0 (LT.skip rfl rfl rfl) ?_
      refine RG.S0 (LT.skip rfl rfl rfl) ?_
      refine jS (rt_pick_true rfl rfl) ?_
      refine RG.nil (by kernel_rfl) ?_
      repeat (first | refine js ?_ | refine jb ?_)
      refine WpD.condT rfl ?_
      repeat (first | refine js ?_ | refine jb ?_)
      refine WpD.skip ?_
      repeat (first | refine js ?_ | refine jb ?_)
      refine jr ?_
      refine jm rfl ?_
      refine jS (ru_len rfl CSlice.ok) ?_
      refine jS (rt_bin_to rfl rfl (fun w => run_eqi w _ _ _ _ _ _) (vbool (beqT (by first | assumption | omega)))) ?_
      refine RG.nil (by kernel_rfl) ?_
      repeat (first | refine js ?_ | refine jb ?_)
      refine WpD.condT rfl ?_
      repeat (first | refine js ?_ | refine jb ?_)
      refine jr ?_
      refine jm rfl ?_
      refine jS (ru_call (nclone En (digs u) (lm_digs _) (by omega)) ⟨rfl, trivial⟩) ?_
      refine ja rfl ?_
      refine RG.nil (by kernel_rfl) ?_
      repeat (first | refine js ?_ | refine jb ?_)
      refine WpD.ret ?_
      exact ret1 rfl (.tmp rfl) (PLe.refl _)
    · have hv0 : v ≠ 0 := fun h => h3 (digs0.2 h)
      obtain ⟨p, hp, hlt⟩ := next hv0
      have C5 := C4 hv0
      repeat (first | refine js ?_ | refine jb ?_)
      refine jr ?_
      refine jm rfl ?_
      refine jS (ru_len rfl CSlice.ok) ?_
      refine jS (rt_bin_to rfl rfl (fun w => run_gti w _ _ _ _ _ _) (vbool (decide_eq_true (by first | assumption | omega)))) ?_
      refine jm rfl ?_
      refine RG.S0 (LT.skip rfl rfl rfl) ?_
      refine RG.S0 (LT.skip rfl rfl rfl) ?_
      refine RG.S0 (LT.skip rfl rfl rfl) ?_
      refine jS (rt_pick_true rfl rfl) ?_
      refine RG.nil (by kernel_rfl) ?_
      repeat (first | refine js ?_ | refine jb ?_)
      refine WpD.condT rfl ?_
      repeat (first | refine js ?_ | refine jb ?_)
      refine WpD.skip ?_
      repeat (first | refine js ?_ | refine jb ?_)
      refine jr ?_
      refine jm rfl ?_
      refine jS (ru_len rfl CSlice.ok) ?_
      refine jS (rt_bin_to rfl rfl (fun w => run_eqi w _ _ _ _ _ _) (vbool (beqF (by first | assumption | omega)))) ?_
      refine RG.nil (by kernel_rfl) ?_
      repeat (first | refine js ?_ | refine jb ?_)
      refine WpD.condF rfl ?_
      repeat (first | refine js ?_ | refine jb ?_)
      refine WpD.skip ?_
      repeat (first | refine js ?_ | refine jb ?_)
      refine jr ?_
      refine jm rfl ?_
      refine jm rfl ?_
      refine jS (ru_call C5 ⟨rfl, rfl, trivial⟩) ?_
      refine jm rfl ?_
      refine jS (rt_extract rfl rfl) ?_
      refine jS (rt_extract rfl rfl) ?_
      refine ja rfl ?_
      refine ja rfl ?_
      refine RG.nil (by kernel_rfl) ?_
      repeat (first | refine js ?_ | refine jb ?_)
      refine jr ?_
      refine jm rfl ?_
      refine jm rfl ?_
      refine ja rfl ?_
      refine ja rfl ?_
      refine RG.nil (by kernel_rfl) ?_
      refine ⟨p, ?_, by rw [hp]; exact hlt⟩
      rw [hp]
      refine Sub.mk ?_ ?_
      · repeat (first | exact trivial | refine jv rfl ?_ | refine jw rfl (js0 rfl) ?_ | refine jw rfl ⟨js0 rfl, js0 rfl⟩ ?_ | refine jx rfl ⟨js0 rfl, js0 rfl⟩ ?_ | refine jw rfl (clo_live (js0 rfl) (js0 rfl)) ?_ | refine ⟨⟨_, rfl, PLe.refl _⟩, trivial, ?_⟩)
      · repeat (first | exact trivial | refine jz ?_ | refine jy rfl ?_)
  · by_cases h2 : (digs v).length > 2
    · have hv0 : v ≠ 0 := fun h => by rw [digs0.2 h] at h2; omega
      obtain ⟨p, hp, hlt⟩ := next hv0
      have C5 := C4 hv0
      repeat (first | refine js ?_ | refine jb ?_)
      refine jr ?_
      refine jm rfl ?_
      refine jS (ru_len rfl CSlice.ok) ?_
      refine jS (rt_bin_to rfl rfl (fun w => run_gti w _ _ _ _ _ _) (vbool (decide_eq_false (by first | assumption | omega)))) ?_
      refine jm rfl ?_
      refine RG.S0 (LT.run rfl rfl rfl (rt_move rfl)) ?_
      refine RG.S0 (LT.run rfl rfl rfl (ru_len rfl CSlice.ok)) ?_
      refine RG.S0 (LT.run rfl rfl rfl (rt_bin_to rfl rfl (fun w => run_gti w _ _ _ _ _ _) (vbool (decide_eq_true (by first | assumption | omega))))) ?_
      refine jS (rt_pick_false rfl rfl) ?_
      refine RG.nil (by kernel_rfl) ?_
      repeat (first | refine js ?_ | refine jb ?_)
      refine WpD.condT rfl ?_
      repeat (first | refine js ?_ | refine jb ?_)
      refine WpD.skip ?_
      repeat (first | refine js ?_ | refine jb ?_)
      refine jr ?_
      refine jm rfl ?_
      refine jS (ru_len rfl CSlice.ok) ?_
      refine jS (rt_bin_to rfl rfl (fun w => run_eqi w _ _ _ _ _ _) (vbool (beqF (by first | assumption | omega)))) ?_
      refine RG.nil (by kernel_rfl) ?_
      repeat (first | refine js ?_ | refine jb ?_)
      refine WpD.condF rfl ?_
      repeat (first | refine js ?_ | refine jb ?_)
      refine WpD.skip ?_
      repeat (first | refine js ?_ | refine jb ?_)
      refine jr ?_
      refine jm rfl ?_
      refine jm rfl ?_
      refine jS (ru_call C5 ⟨rfl, rfl, trivial⟩) ?_
      refine jm rfl ?_
      refine jS (rt_extract rfl rfl) ?_
      refine jS (rt_extract rfl rfl) ?_
      refine ja rfl ?_
      refine ja rfl ?_
      refine RG.nil (by kernel_rfl) ?_
      repeat (first | refine js ?_ | refine jb ?_)
      refine jr ?_
      refine jm rfl ?_
      refine jm rfl ?_
      refine ja rfl ?_
      refine ja rfl ?_
      refine RG.nil (by kernel_rfl) ?_
      refine ⟨p, ?_, by rw [hp]; exact hlt⟩
      rw [hp]
      refine Sub.mk ?_ ?_
      · repeat (first | exact trivial | refine jv rfl ?_ | refine jw rfl (js0 rfl) ?_ | refine jw rfl ⟨js0 rfl, js0 rfl⟩ ?_ | refine jx rfl ⟨js0 rfl, js0 rfl⟩ ?_ | refine jw rfl (clo_live (js0 rfl) (js0 rfl)) ?_ | refine ⟨⟨_, rfl, PLe.refl _⟩, trivial, ?_⟩)
      · repeat (first | exact trivial | refine jz ?_ | refine jy rfl ?_)
    · have W1 := nword En (digs u) (lm_digs _) (by omega)
      have W2 := nword En (digs v) (lm_digs _) (by omega)
      rw [val_digs] at W1 W2
      have hu64 : u < 18446744073709551616 := by have := val_lt (lm_digs u); rw [val_digs] at this; exact Nat.lt_of_lt_of_le this (Nat.le_trans (Nat.pow_le_pow_right B_pos (show _ ≤ 2 by omega)) (by rw [B_def]; decide))
      have hv64 : v < 18446744073709551616 := by have := val_lt (lm_digs v); rw [val_digs] at this; exact Nat.lt_of_lt_of_le this (Nat.le_trans (Nat.pow_le_pow_right B_pos (show _ ≤ 2 by omega)) (by rw [B_def]; decide))
      repeat (first | refine js ?_ | refine jb ?_)
      refine jr ?_
      refine jm rfl ?_
      refine jS (ru_len rfl CSlice.ok) ?_
      refine jS (rt_bin_to rfl rfl (fun w => run_gti w _ _ _ _ _ _) (vbool (decide_eq_false (by first | assumption | omega)))) ?_
      refine jm rfl ?_
      refine RG.S0 (LT.run rfl rfl rfl (rt_move rfl)) ?_
      refine RG.S0 (LT.run rfl rfl rfl (ru_len rfl CSlice.ok)) ?_
      refine RG.S0 (LT.run rfl rfl rfl (rt_bin_to rfl rfl (fun w => run_gti w _ _ _ _ _ _) (vbool (decide_eq_false (by first | assumption | omega))))) ?_
      refine jS (rt_pick_false rfl rfl) ?_
      refine RG.nil (by kernel_rfl) ?_
      repeat (first | refine js ?_ | refine jb ?_)
      refine WpD.condF rfl ?_
      repeat (first | refine js ?_ | refine jb ?_)
      refine WpD.exit ?_
      repeat (first | refine js ?_ | refine jb ?_)
      refine jr ?_
      refine jm rfl ?_
      refine jS (ru_call W1 ⟨rfl, trivial⟩) ?_
      refine jm rfl ?_
      refine jS (ru_call W2 ⟨rfl, trivial⟩) ?_
      refine ja rfl ?_
      refine ja rfl ?_
      refine RG.nil (by kernel_rfl) ?_
      repeat (first | refine js ?_ | refine jb ?_)
      refine WpD.loop (α := {p : Nat × Nat // Nat.gcd p.1 p.2 = Nat.gcd x y ∧ p.1 < 18446744073709551616 ∧ p.2 < 18446744073709551616}) (fun p => ⟨[(7, .one (ex (.int .u64 (p.1.1 : Nat)))), (8, .one (ex (.int .u64 (p.1.2 : Nat))))], []⟩) (fun p => p.1.2) ⟨(u, v), hg, hu64, hv64⟩ ?_ ?_
      · refine Sub.mk ?_ ?_
        · repeat (first | exact trivial | refine jv rfl ?_ | refine jw rfl (js0 rfl) ?_ | refine jw rfl ⟨js0 rfl, js0 rfl⟩ ?_ | refine jx rfl ⟨js0 rfl, js0 rfl⟩ ?_ | refine jw rfl (clo_live (js0 rfl) (js0 rfl)) ?_ | refine ⟨⟨_, rfl, PLe.refl _⟩, trivial, ?_⟩)
        · repeat (first | exact trivial | refine jz ?_ | refine jy rfl ?_)
      rintro ⟨⟨p, q⟩, hpq, hp, hq⟩
      dsimp only at hpq hp hq ⊢
      by_cases hq0 : q = 0
      · subst hq0
        have e : p = Nat.gcd x y := by simpa using hpq
        have C6 := nfromWord En p hp
        rw [← e]
        repeat (first | refine js ?_ | refine jb ?_)
        refine jr ?_
        refine jm rfl ?_
        refine jS (rt_bin_to rfl rfl (fun w => run_nei w _ _ _ _ _ _) (vbool (bneF (by first | assumption | omega)))) ?_
        refine RG.nil (by kernel_rfl) ?_
        repeat (first | refine js ?_ | refine jb ?_)
        refine WpD.condF rfl ?_
        repeat (first | refine js ?_ | refine jb ?_)
        refine WpD.exit ?_
        repeat (first | refine js ?_ | refine jb ?_)
        refine jr ?_
        refine jm rfl ?_
        refine jS (ru_call C6 ⟨rfl, trivial⟩) ?_
        refine ja rfl ?_
        refine RG.nil (by kernel_rfl) ?_
        repeat (first | refine js ?_ | refine jb ?_)
        refine WpD.ret ?_
        exact ret1 rfl (.tmp rfl) (PLe.refl _)
      · have hlt := Nat.mod_lt p (Nat.pos_of_ne_zero hq0)
        have e8 : ((p : Nat) : Int).tmod (q : Nat) = ((p % q : Nat) : Int) := (Int.ofNat_tmod p q).symm
        have hne : ((q : Nat) : Int) ≠ 0 := by omega
        repeat (first | refine js ?_ | refine jb ?_)
        refine jr ?_
        refine jm rfl ?_
        refine jS (rt_bin_to rfl rfl (fun w => run_nei w _ _ _ _ _ _) (vbool (bneT (by first | assumption | omega)))) ?_
        refine RG.nil (by kernel_rfl) ?_
        repeat (first | refine js ?_ | refine jb ?_)
        refine WpD.condT rfl ?_
        repeat (first | refine js ?_ | refine jb ?_)
        refine WpD.skip ?_
        repeat (first | refine js ?_ | refine jb ?_)
        refine jr ?_
        refine jm rfl ?_
        refine jm rfl ?_
        refine jm rfl ?_
        refine jS (rt_bin_to rfl rfl (fun w => run_remi w _ _ _ _ _ _ (by first | decide | omega | assumption)) (vint e8)) ?_
        refine ja rfl ?_
        refine ja rfl ?_
        refine RG.nil (by kernel_rfl) ?_
        refine ⟨⟨(q, p % q), by rw [gcd_step]; exact hpq, hq, Nat.lt_trans hlt hq⟩, ?_, hlt⟩
        refine Sub.mk ?_ ?_
        · repeat (first | exact trivial | refine jv rfl ?_ | refine jw rfl (js0 rfl) ?_ | refine jw rfl ⟨js0 rfl, js0 rfl⟩ ?_ | refine jx rfl ⟨js0 rfl, js0 rfl⟩ ?_ | refine jw rfl (clo_live (js0 rfl) (js0 rfl)) ?_ | refine ⟨⟨_, rfl, PLe.refl _⟩, trivial, ?_⟩)
        · repeat (first | exact trivial | refine jz ?_ | refine jy rfl ?_)
theorem igcd (s : Bool) (l : List Nat) (s' : Bool) (l' : List Nat) (hl : Lm l) (hl' : Lm l') (hlen : l.length ≤ 274877906944) (hlen' : l'.length ≤ 274877906944) :
    Fn Tryz.prog En 90 [zR s l, zR s' l'] (zC (Nat.gcd (zv s l).natAbs (zv s' l').natAbs : Nat)) := by
  have C1 := ntrim En l hl (by omega)
  have C2 := ntrim En l' hl' (by omega)
  have D1 := digs_lenle hlen hl
  have D2 := digs_lenle hlen' hl'
  rw [zv_abs, zv_abs]
  have C4 := ibuild En false (Nat.gcd (val l) (val l'))
  rw [show sgnZ false (Nat.gcd (val l) (val l')) = ((Nat.gcd (val l) (val l') : Nat) : Int) from rfl] at C4
  refine fn_of_body Tryz.func90 rfl Tryz.ntmps90 rfl ?_
  intro w0 h0
  repeat (first | refine js ?_ | refine jb ?_)
  refine jr ?_
  refine jT (ru_boxR rfl rfl rfl) ?_
  refine jT (ru_boxR rfl rfl rfl) ?_
  refine jT (ru_alloc rfl rfl rfl) ?_
  refine RG.nil (by kernel_rfl) ?_
  repeat (first | refine js ?_ | refine jb ?_)
  refine jr ?_
  refine jS (ru_fieldAddr rfl rfl) ?_
  refine jS (ru_load1 rfl rfl rfl) ?_
  refine jS (ru_call C1 ⟨rfl, trivial⟩) ?_
  refine jS (ru_fieldAddr rfl rfl) ?_
  refine jS (ru_load1 rfl rfl rfl) ?_
  refine jS (ru_call C2 ⟨rfl, trivial⟩) ?_
  refine jS (ru_call (ngcd En _ _ D1 D2) ⟨rfl, rfl, trivial⟩) ?_
  refine jS (ru_call C4 ⟨rfl, rfl, trivial⟩) ?_
  refine jO (ru_storeR rfl rfl rfl rfl rfl rfl) ?_
  refine RG.nil (by kernel_rfl) ?_
  repeat (first | refine js ?_ | refine jb ?_)
  refine WpD.ret ?_
  exact ret1 rfl (.cell rfl rfl CRow.ok rfl) (PLe.refl _)
end
end Go.Proofs.YtpiflllcjgpkhaaGreatDoor

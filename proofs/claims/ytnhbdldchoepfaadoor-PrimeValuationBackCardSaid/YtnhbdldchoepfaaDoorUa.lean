/- Units: remainder, Unit, the scene's prime numbers. -/
import Derived.Test.YtnhbdldchoepfaaDoorIa
import Derived.Test.YtnhbdldchoepfaaDoorAwake
import Derived.OpenShut
set_option maxRecDepth 3000
namespace Go.Proofs.YtnhbdldchoepfaaDoor
open Go.RowKit Limb Num
/-- The table of the program. -/
def TabE : Ev := ⟨Tab, fun k => k = 0, fun w ⟨t, fr, h⟩ k hk => by subst hk; exact block_lt h, fun w w' hk ⟨t, fr, h⟩ => ⟨t, fr, by rw [hk _ rfl]; exact h⟩⟩
theorem ex_fnU {h : GH} {w w' : World} {v : Value} {e : Ending} (hh : Holds h w) (he : e = .returned v) (hb : Below w.heap.size w w') : FnPost h w (ex v) e w' := by subst he; exact fn_post hh hb rfl
theorem fawake : Fn Tryd.prog TabE 8 [] (ex (.bool true)) := by
  intro h w vs ht hh ha
  cases vs with
  | nil => exact (awake_any w ht).mono fun _ _ ⟨he, hb⟩ => ex_fnU hh he hb
  | cons => exact ha.elim
theorem fis (n : Int) : Fn Tryd.prog TabE 25 [ex (.int .i64 n)] (ex (.bool (isP n.toNat))) := by
  intro h w vs ht hh hv
  obtain ⟨v, rfl, h1⟩ := hv.one
  have h1 : v = .int .i64 n := h1
  subst h1
  refine (is_any n w ht).mono ?_
  rintro e w' ⟨rfl, rfl⟩
  exact fn_post hh (Below.refl _ _) rfl
theorem fkron (En : Ev) (a n : Int) (ha : InR a) (hn : InR n) : Fn Tryd.prog En 23 [ex (.int .i64 a), ex (.int .i64 n)] (tupP [ex (.int .i64 (krZ a n)), ex (.int .i64 0)]) := by
  intro h w vs _ hh hv
  obtain ⟨v, u, rfl, h1, h2⟩ := hv.two
  have h1 : v = .int .i64 a := h1
  have h2 : u = .int .i64 n := h2
  subst h1 h2
  refine (kron_any a n w ha hn).mono ?_
  rintro e w' ⟨rfl, rfl⟩
  exact fn_post hh (Below.refl _ _) ⟨[_, _], rfl, rfl, rfl, trivial⟩
instance cbody8 : CBody Tryd.prog 8 := ⟨⟨_, Tryd.func8, rfl, by rfl⟩⟩
instance cbody25 : CBody Tryd.prog 25 := ⟨⟨_, Tryd.func25, rfl, by rfl⟩⟩
instance cbody23 : CBody Tryd.prog 23 := ⟨⟨_, Tryd.func23, rfl, by rfl⟩⟩
instance cbody26 : CBody Tryd.prog 26 := ⟨⟨_, Tryd.func26, rfl, by rfl⟩⟩
instance cbody10 : CBody Tryd.prog 10 := ⟨⟨_, Tryd.func10, rfl, by rfl⟩⟩
instance cbody9 : CBody Tryd.prog 9 := ⟨⟨_, Tryd.func9, rfl, by rfl⟩⟩
theorem fn_true {P : Program} {En : Ev} {f : FuncId} {ps : List Pd} {vs : List Value} (h : Fn P En f ps (ex (.bool true))) (w : World) (he : En.e w) (ha : AllV (fun _ _ => none) ps vs) : Calls P f vs.toArray w fun e w' => e = .returned (.bool true) ∧ Below w.heap.size w w' := by
  refine (h (fun _ _ => none) w vs he (fun _ _ _ e => by cases e) ha).mono ?_
  rintro e w' ⟨v, h', rfl, _, _, _, hb, hv⟩
  have hv : v = .bool true := hv
  exact ⟨by rw [hv], hb⟩
/-- The scene's numbers. -/
def pr20 (j : Nat) : Int := ([2, 3, 5, 7, 2, 3, 5, 11, 13, 17, 19, 23, 3, 2, 9973, 10007, 1, 4, 9, -3] : List Int).getD j 0
set_option maxHeartbeats 4000000 in
theorem prime_any (k : Int) (w : World) (h1 : 0 ≤ k) (h2 : k ≤ 255) :
    Calls Tryd.prog 9 #[.int .u8 k] w fun e w' => e = .returned (.int .i64 (pr20 (k % 20).toNat)) ∧ Below w.heap.size w w' := by
  have hr : k % 20 = 0 ∨ k % 20 = 1 ∨ k % 20 = 2 ∨ k % 20 = 3 ∨ k % 20 = 4 ∨ k % 20 = 5 ∨ k % 20 = 6 ∨ k % 20 = 7 ∨ k % 20 = 8 ∨ k % 20 = 9 ∨ k % 20 = 10 ∨ k % 20 = 11 ∨ k % 20 = 12 ∨ k % 20 = 13 ∨ k % 20 = 14 ∨ k % 20 = 15 ∨ k % 20 = 16 ∨ k % 20 = 17 ∨ k % 20 = 18 ∨ k % 20 = 19 := by omega
  obtain ⟨r, hrr⟩ : ∃ r, k % 20 = r := ⟨_, rfl⟩
  rw [hrr] at hr
  have HR := Lib.hid hrr
  rcases hr with rfl | rfl | rfl | rfl | rfl | rfl | rfl | rfl | rfl | rfl | rfl | rfl | rfl | rfl | rfl | rfl | rfl | rfl | rfl | rfl
  all_goals
    go_enter Tryd.func9, Tryd.ntmps9
    go_wp2_with fail
    go_ret
    refine ⟨?_, (Below.refl _ _).alloc (Nat.le_refl _) _⟩
    first | rfl | (rw [HR.out]; rfl)
theorem fprime (En : Ev) (k : Int) (h1 : 0 ≤ k) (h2 : k ≤ 255) : Fn Tryd.prog En 9 [ex (.int .u8 k)] (ex (.int .i64 (pr20 (k % 20).toNat))) := by
  intro h w vs _ hh hv
  obtain ⟨v, rfl, e1⟩ := hv.one
  have e1 : v = .int .u8 k := e1
  subst e1
  exact (prime_any k w h1 h2).mono fun _ _ ⟨he, hb⟩ => ex_fnU hh he hb
section
variable (En : Ev)
theorem iremainder (s : Bool) (l : List Nat) (n : Int) (hl : Lm l) (hlen : l.length ≤ 274877906944) (h1 : 0 < n) (h2 : n ≤ 9223372036854775807) :
    Fn Tryd.prog En 26 [zR s l, ex (.int .i64 n)] (ex (.int .i64 (zv s l % n))) := by
  have C1 := ismall En n (by omega) h2
  have hn2 : (digs n.natAbs).length ≤ 2 := digs_length_le (by rw [B_def]; omega)
  have C2 := idivmod En s l (decide (n < 0)) (digs n.natAbs) hl (lm_digs _) hlen (by omega) (by rw [zv_C]; omega)
  rw [zv_C] at C2
  have r1 := Int.emod_nonneg (zv s l) (b := n) (by omega)
  have r2 := Int.emod_lt_of_pos (zv s l) h1
  generalize zv s l % n = r at *
  have C3 := iint64 En (decide (r < 0)) (digs r.natAbs) (lm_digs _) (Nat.le_trans (digs_length_le (k := 2) (by rw [B_def]; omega)) (by omega)) (by rw [val_digs]; omega)
  rw [zv_C] at C3
  refine fn_of_body Tryd.func26 rfl Tryd.ntmps26 rfl ?_
  intro w0 h0
  repeat (first | refine js ?_ | refine jb ?_)
  refine jr ?_
  refine jT (ru_boxR rfl rfl rfl) ?_
  refine ja rfl ?_
  refine RG.nil (by kernel_rfl) ?_
  repeat (first | refine js ?_ | refine jb ?_)
  refine jr ?_
  refine jS (ru_loadR rfl rfl rfl rfl) ?_
  refine jm rfl ?_
  refine jS (ru_call C1 ⟨rfl, trivial⟩) ?_
  refine jS (ru_call C2 ⟨rfl, rfl, trivial⟩) ?_
  refine jm rfl ?_
  refine jS (rt_extract rfl rfl) ?_
  refine jS (rt_extract rfl rfl) ?_
  refine jS (rt_extract rfl rfl) ?_
  refine jT (ru_alloc rfl rfl rfl) ?_
  refine jT (ru_alloc rfl rfl rfl) ?_
  refine jO (ru_storeR rfl rfl rfl rfl rfl rfl) ?_
  refine jO (ru_storeR rfl rfl rfl rfl rfl rfl) ?_
  refine ja rfl ?_
  refine RG.nil (by kernel_rfl) ?_
  repeat (first | refine js ?_ | refine jb ?_)
  refine jr ?_
  refine jS (ru_loadR rfl rfl rfl rfl) ?_
  refine jS (ru_call C3 ⟨rfl, trivial⟩) ?_
  refine jm rfl ?_
  refine jS (rt_extract rfl rfl) ?_
  refine jS (rt_extract rfl rfl) ?_
  refine ja rfl ?_
  refine ja rfl ?_
  refine RG.nil (by kernel_rfl) ?_
  repeat (first | refine js ?_ | refine jb ?_)
  refine jr ?_
  refine jm rfl ?_
  refine ja rfl ?_
  refine RG.nil (by kernel_rfl) ?_
  repeat (first | refine js ?_ | refine jb ?_)
  refine WpD.ret ?_
  exact ret1 rfl (.tmp rfl) (PLe.refl _)
end
theorem isP_le {n : Nat} (h : isP n = true) : 2 ≤ n ∧ n ≤ 2147483647 := by
  unfold isP at h
  simp only [Bool.and_eq_true, decide_eq_true_eq] at h
  omega
/-- The class of a unit. -/
def unitV (X p : Int) : Int := if isP p.toNat then (if X % p = 0 then 0 else if p = 2 then X % 8 else krZ (X % p) p) else 0
def unitE (X p : Int) : Int := if isP p.toNat then (if X % p = 0 then 21 else 0) else 20
set_option maxHeartbeats 1000000 in
theorem iunit (s : Bool) (l : List Nat) (p : Int) (hl : Lm l) (hlen : l.length ≤ 274877906944) :
    Fn Tryd.prog TabE 10 [zR s l, ex (.int .i64 p)] (tupP [ex (.int .i64 (unitV (zv s l) p)), ex (.int .i64 (unitE (zv s l) p))]) := by
  have C1 := fis p
  unfold unitV unitE
  cases hp : isP p.toNat with
  | false =>
    rw [hp] at C1
    simp only [if_neg Bool.false_ne_true]
    refine fn_of_body Tryd.func10 rfl Tryd.ntmps10 rfl ?_
    intro w0 h0
    repeat (first | refine js ?_ | refine jb ?_)
    refine jr ?_
    refine jT (ru_boxR rfl rfl rfl) ?_
    refine ja rfl ?_
    refine ja rfl ?_
    refine RG.nil (by kernel_rfl) ?_
    repeat (first | refine js ?_ | refine jb ?_)
    refine jr ?_
    refine jm rfl ?_
    refine jS (ru_call C1 ⟨rfl, trivial⟩) ?_
    refine jS (rt_un rfl (fun w => run_not w _)) ?_
    refine RG.nil (by kernel_rfl) ?_
    repeat (first | refine js ?_ | refine jb ?_)
    refine WpD.condT rfl ?_
    repeat (first | refine js ?_ | refine jb ?_)
    refine jr ?_
    refine ja rfl ?_
    refine ja rfl ?_
    refine RG.nil (by kernel_rfl) ?_
    repeat (first | refine js ?_ | refine jb ?_)
    refine WpD.ret ?_
    exact ret2 rfl (.tmp rfl) (.tmp rfl) (PLe.refl _)
  | true =>
    rw [hp] at C1
    simp only [if_true]
    have hb := isP_le hp
    have C2 := iremainder TabE s l p hl hlen (by omega) (by omega)
    have C3 := iremainder TabE s l 8 hl hlen (by omega) (by omega)
    have r1 := Int.emod_nonneg (zv s l) (b := p) (by omega)
    have r2 := Int.emod_lt_of_pos (zv s l) (b := p) (by omega)
    by_cases h0 : zv s l % p = 0
    · rw [if_pos h0, if_pos h0]
      have b1 : (zv s l % p == 0) = true := by rw [h0]; rfl
      refine fn_of_body Tryd.func10 rfl Tryd.ntmps10 rfl ?_
      intro w0 h0
      repeat (first | refine js ?_ | refine jb ?_)
      refine jr ?_
      refine jT (ru_boxR rfl rfl rfl) ?_
      refine ja rfl ?_
      refine ja rfl ?_
      refine RG.nil (by kernel_rfl) ?_
      repeat (first | refine js ?_ | refine jb ?_)
      refine jr ?_
      refine jm rfl ?_
      refine jS (ru_call C1 ⟨rfl, trivial⟩) ?_
      refine jS (rt_un rfl (fun w => run_not w _)) ?_
      refine RG.nil (by kernel_rfl) ?_
      repeat (first | refine js ?_ | refine jb ?_)
      refine WpD.condF rfl ?_
      repeat (first | refine js ?_ | refine jb ?_)
      refine WpD.skip ?_
      repeat (first | refine js ?_ | refine jb ?_)
      refine jr ?_
      refine jS (ru_loadR rfl rfl rfl rfl) ?_
      refine jm rfl ?_
      refine jS (ru_call C2 ⟨rfl, rfl, trivial⟩) ?_
      refine jS (rt_bin_to rfl rfl (fun w => run_eqi w _ _ _ _ _ _) (vbool b1)) ?_
      refine RG.nil (by kernel_rfl) ?_
      repeat (first | refine js ?_ | refine jb ?_)
      refine WpD.condT rfl ?_
      repeat (first | refine js ?_ | refine jb ?_)
      refine jr ?_
      refine ja rfl ?_
      refine ja rfl ?_
      refine RG.nil (by kernel_rfl) ?_
      repeat (first | refine js ?_ | refine jb ?_)
      refine WpD.ret ?_
      exact ret2 rfl (.tmp rfl) (.tmp rfl) (PLe.refl _)
    · rw [if_neg h0, if_neg h0]
      have b1 : (zv s l % p == 0) = false := by rw [beq_eq_false_iff_ne]; exact h0
      by_cases h2 : p = 2
      · rw [if_pos h2]
        have b2 : (p == 2) = true := by rw [h2]; rfl
        refine fn_of_body Tryd.func10 rfl Tryd.ntmps10 rfl ?_
        intro w0 h0
        repeat (first | refine js ?_ | refine jb ?_)
        refine jr ?_
        refine jT (ru_boxR rfl rfl rfl) ?_
        refine ja rfl ?_
        refine ja rfl ?_
        refine RG.nil (by kernel_rfl) ?_
        repeat (first | refine js ?_ | refine jb ?_)
        refine jr ?_
        refine jm rfl ?_
        refine jS (ru_call C1 ⟨rfl, trivial⟩) ?_
        refine jS (rt_un rfl (fun w => run_not w _)) ?_
        refine RG.nil (by kernel_rfl) ?_
        repeat (first | refine js ?_ | refine jb ?_)
        refine WpD.condF rfl ?_
        repeat (first | refine js ?_ | refine jb ?_)
        refine WpD.skip ?_
        repeat (first | refine js ?_ | refine jb ?_)
        refine jr ?_
        refine jS (ru_loadR rfl rfl rfl rfl) ?_
        refine jm rfl ?_
        refine jS (ru_call C2 ⟨rfl, rfl, trivial⟩) ?_
        refine jS (rt_bin_to rfl rfl (fun w => run_eqi w _ _ _ _ _ _) (vbool b1)) ?_
        refine RG.nil (by kernel_rfl) ?_
        repeat (first | refine js ?_ | refine jb ?_)
        refine WpD.condF rfl ?_
        repeat (first | refine js ?_ | refine jb ?_)
        refine WpD.skip ?_
        repeat (first | refine js ?_ | refine jb ?_)
        refine jr ?_
        refine jm rfl ?_
        refine jS (rt_bin_to rfl rfl (fun w => run_eqi w _ _ _ _ _ _) (vbool b2)) ?_
        refine RG.nil (by kernel_rfl) ?_
        repeat (first | refine js ?_ | refine jb ?_)
        refine WpD.condT rfl ?_
        repeat (first | refine js ?_ | refine jb ?_)
        refine jr ?_
        refine jS (ru_loadR rfl rfl rfl rfl) ?_
        refine jS (ru_call C3 ⟨rfl, rfl, trivial⟩) ?_
        refine ja rfl ?_
        refine ja rfl ?_
        refine RG.nil (by kernel_rfl) ?_
        repeat (first | refine js ?_ | refine jb ?_)
        refine WpD.ret ?_
        exact ret2 rfl (.tmp rfl) (.tmp rfl) (PLe.refl _)
      · rw [if_neg h2]
        have b2 : (p == 2) = false := by rw [beq_eq_false_iff_ne]; exact h2
        have C4 := fkron TabE (zv s l % p) p (by unfold InR; omega) (by unfold InR; omega)
        refine fn_of_body Tryd.func10 rfl Tryd.ntmps10 rfl ?_
        intro w0 h0
        repeat (first | refine js ?_ | refine jb ?_)
        refine jr ?_
        refine jT (ru_boxR rfl rfl rfl) ?_
        refine ja rfl ?_
        refine ja rfl ?_
        refine RG.nil (by kernel_rfl) ?_
        repeat (first | refine js ?_ | refine jb ?_)
        refine jr ?_
        refine jm rfl ?_
        refine jS (ru_call C1 ⟨rfl, trivial⟩) ?_
        refine jS (rt_un rfl (fun w => run_not w _)) ?_
        refine RG.nil (by kernel_rfl) ?_
        repeat (first | refine js ?_ | refine jb ?_)
        refine WpD.condF rfl ?_
        repeat (first | refine js ?_ | refine jb ?_)
        refine WpD.skip ?_
        repeat (first | refine js ?_ | refine jb ?_)
        refine jr ?_
        refine jS (ru_loadR rfl rfl rfl rfl) ?_
        refine jm rfl ?_
        refine jS (ru_call C2 ⟨rfl, rfl, trivial⟩) ?_
        refine jS (rt_bin_to rfl rfl (fun w => run_eqi w _ _ _ _ _ _) (vbool b1)) ?_
        refine RG.nil (by kernel_rfl) ?_
        repeat (first | refine js ?_ | refine jb ?_)
        refine WpD.condF rfl ?_
        repeat (first | refine js ?_ | refine jb ?_)
        refine WpD.skip ?_
        repeat (first | refine js ?_ | refine jb ?_)
        refine jr ?_
        refine jm rfl ?_
        refine jS (rt_bin_to rfl rfl (fun w => run_eqi w _ _ _ _ _ _) (vbool b2)) ?_
        refine RG.nil (by kernel_rfl) ?_
        repeat (first | refine js ?_ | refine jb ?_)
        refine WpD.condF rfl ?_
        repeat (first | refine js ?_ | refine jb ?_)
        refine WpD.skip ?_
        repeat (first | refine js ?_ | refine jb ?_)
        refine jr ?_
        refine jS (ru_loadR rfl rfl rfl rfl) ?_
        refine jm rfl ?_
        refine jS (ru_call C2 ⟨rfl, rfl, trivial⟩) ?_
        refine jm rfl ?_
        refine jS (ru_call C4 ⟨rfl, rfl, trivial⟩) ?_
        refine jS (rt_extract rfl rfl) ?_
        refine jS (rt_extract rfl rfl) ?_
        refine ja rfl ?_
        refine ja rfl ?_
        refine RG.nil (by kernel_rfl) ?_
        repeat (first | refine js ?_ | refine jb ?_)
        refine WpD.ret ?_
        exact ret2 rfl (.tmp rfl) (.tmp rfl) (PLe.refl _)
end Go.Proofs.YtnhbdldchoepfaaDoor

/- Units by the reference. -/
import Derived.Test.YtnhbdldchoepfaaDoorZd
import Derived.Test.YtnhbdldchoepfaaDoorUa
set_option maxRecDepth 3000
namespace Go.Proofs.YtnhbdldchoepfaaDoor
open Go.RowKit Limb Num
instance cbody27 : CBody Tryd.prog 27 := ⟨⟨_, Tryd.func27, rfl, by rfl⟩⟩
instance cbody28 : CBody Tryd.prog 28 := ⟨⟨_, Tryd.func28, rfl, by rfl⟩⟩
instance cbody11 : CBody Tryd.prog 11 := ⟨⟨_, Tryd.func11, rfl, by rfl⟩⟩
instance cbody29 : CBody Tryd.prog 29 := ⟨⟨_, Tryd.func29, rfl, by rfl⟩⟩
instance cbody7 : CBody Tryd.prog 7 := ⟨⟨_, Tryd.func7, rfl, by rfl⟩⟩
theorem fris (En : Ev) (n : Int) : Fn Tryd.prog En 27 [ex (.int .i64 n)] (ex (.bool (isP n.toNat))) := by
  intro h w vs _ hh hv
  obtain ⟨v, rfl, h1⟩ := hv.one
  have h1 : v = .int .i64 n := h1
  subst h1
  refine (ris_any n w).mono ?_
  rintro e w' ⟨rfl, rfl⟩
  exact fn_post hh (Below.refl _ _) rfl
theorem fleg (En : Ev) (a : Int) (p : Nat) (h1 : 1 ≤ p) (h2 : p ≤ 2147483648) : Fn Tryd.prog En 29 [ex (.int .i64 a), ex (.int .i64 (p : Int))] (ex (.int .i64 (legZ a p))) := by
  intro h w vs _ hh hv
  obtain ⟨v, u, rfl, e1, e2⟩ := hv.two
  have e1 : v = .int .i64 a := e1
  have e2 : u = .int .i64 (p : Int) := e2
  subst e1 e2
  refine (legendre_any a p w h1 h2).mono ?_
  rintro e w' ⟨rfl, rfl⟩
  exact fn_post hh (Below.refl _ _) rfl
section
variable (En : Ev)
theorem fint64 (s : Bool) (l : List Nat) (hlen : l.length ≤ 1099511627776) (hv : val l < 9223372036854775808) : Fn Tryd.prog En 51 [zR s l] (tupP [ex (.int .i64 (zv s l)), ex (.bool true)]) := by
  have C1 := ftrim En l hlen
  unfold zv
  generalize val l = n at *
  have h2 : (digs n).length ≤ 2 := digs_length_le (by rw [B_def]; omega)
  have C2 := flow En (digs n) h2
  rw [val_digs] at C2
  have b1 : decide (((digs n).length : Int) > 2) = false := decide_eq_false (by omega)
  cases s with
  | true =>
    have b2 : decide ((n : Int) ≤ 9223372036854775808) = true := decide_eq_true (by omega)
    have e2 : IntKind.i64.wrap (IntKind.u64.wrap (-(n : Int))) = sgnZ true n := by rw [IntKind.wrap_u64, IntKind.wrap_i64]; unfold sgnZ; simp; omega
    refine fn_of_body Tryd.func51 rfl Tryd.ntmps51 rfl ?_
    intro w0 h0
    repeat (first | refine js ?_ | refine jb ?_)
    refine jr ?_
    refine jT (ru_boxR rfl rfl rfl) ?_
    refine ja rfl ?_
    refine ja rfl ?_
    refine RG.nil (by kernel_rfl) ?_
    repeat (first | refine js ?_ | refine jb ?_)
    refine jr ?_
    refine jS (ru_fieldAddr rfl rfl) ?_
    refine jS (ru_load1 rfl rfl rfl) ?_
    refine jS (ru_call C1 ⟨rfl, trivial⟩) ?_
    refine ja rfl ?_
    refine RG.nil (by kernel_rfl) ?_
    repeat (first | refine js ?_ | refine jb ?_)
    refine jr ?_
    refine jm rfl ?_
    refine jS (ru_call C2 ⟨rfl, trivial⟩) ?_
    refine ja rfl ?_
    refine RG.nil (by kernel_rfl) ?_
    repeat (first | refine js ?_ | refine jb ?_)
    refine jr ?_
    refine jm rfl ?_
    refine jS (ru_len rfl CSlice.ok) ?_
    refine jS (rt_bin_to rfl rfl (fun w => run_gti w _ _ _ _ _ _) (vbool b1)) ?_
    refine ja rfl ?_
    refine RG.nil (by kernel_rfl) ?_
    repeat (first | refine js ?_ | refine jb ?_)
    refine WpD.condF rfl ?_
    repeat (first | refine js ?_ | refine jb ?_)
    refine jr ?_
    refine jS (ru_fieldAddr rfl rfl) ?_
    refine jS (ru_load1 rfl rfl rfl) ?_
    refine jm rfl ?_
    first | refine RG.S0 (LT.run rfl rfl rfl (rt_move rfl)) ?_ | refine RG.S0 (LT.skip rfl rfl rfl) ?_
    first | refine RG.S0 (LT.run rfl rfl rfl (rt_bin_to rfl rfl (fun w => run_lei w _ _ _ _ _ _) (vbool b2))) ?_ | refine RG.S0 (LT.skip rfl rfl rfl) ?_
    first | refine jS (rt_pick_true rfl rfl) ?_ | refine jS (rt_pick_false rfl rfl) ?_
    refine ja rfl ?_
    refine RG.nil (by kernel_rfl) ?_
    repeat (first | refine js ?_ | refine jb ?_)
    refine WpD.condT rfl ?_
    repeat (first | refine js ?_ | refine jb ?_)
    refine jr ?_
    refine jm rfl ?_
    refine jS (rt_un rfl (fun w => run_negi w _ _)) ?_
    refine jS (rt_conv_to rfl (fun w => run_convi w CInt.ok CInt.ok _ _) (vint e2)) ?_
    refine ja rfl ?_
    refine ja rfl ?_
    refine RG.nil (by kernel_rfl) ?_
    repeat (first | refine js ?_ | refine jb ?_)
    refine WpD.ret ?_
    exact ret2 rfl (.tmp rfl) (.tmp rfl) (PLe.refl _)
  | false =>
    have b2 : decide ((n : Int) < 9223372036854775808) = true := decide_eq_true (by omega)
    have e2 : IntKind.i64.wrap (n : Int) = sgnZ false n := by rw [IntKind.wrap_i64]; unfold sgnZ; simp; omega
    refine fn_of_body Tryd.func51 rfl Tryd.ntmps51 rfl ?_
    intro w0 h0
    repeat (first | refine js ?_ | refine jb ?_)
    refine jr ?_
    refine jT (ru_boxR rfl rfl rfl) ?_
    refine ja rfl ?_
    refine ja rfl ?_
    refine RG.nil (by kernel_rfl) ?_
    repeat (first | refine js ?_ | refine jb ?_)
    refine jr ?_
    refine jS (ru_fieldAddr rfl rfl) ?_
    refine jS (ru_load1 rfl rfl rfl) ?_
    refine jS (ru_call C1 ⟨rfl, trivial⟩) ?_
    refine ja rfl ?_
    refine RG.nil (by kernel_rfl) ?_
    repeat (first | refine js ?_ | refine jb ?_)
    refine jr ?_
    refine jm rfl ?_
    refine jS (ru_call C2 ⟨rfl, trivial⟩) ?_
    refine ja rfl ?_
    refine RG.nil (by kernel_rfl) ?_
    repeat (first | refine js ?_ | refine jb ?_)
    refine jr ?_
    refine jm rfl ?_
    refine jS (ru_len rfl CSlice.ok) ?_
    refine jS (rt_bin_to rfl rfl (fun w => run_gti w _ _ _ _ _ _) (vbool b1)) ?_
    refine ja rfl ?_
    refine RG.nil (by kernel_rfl) ?_
    repeat (first | refine js ?_ | refine jb ?_)
    refine WpD.condF rfl ?_
    repeat (first | refine js ?_ | refine jb ?_)
    refine jr ?_
    refine jS (ru_fieldAddr rfl rfl) ?_
    refine jS (ru_load1 rfl rfl rfl) ?_
    refine jm rfl ?_
    first | refine RG.S0 (LT.run rfl rfl rfl (rt_move rfl)) ?_ | refine RG.S0 (LT.skip rfl rfl rfl) ?_
    first | refine RG.S0 (LT.run rfl rfl rfl (rt_bin rfl rfl (fun w => run_lei w _ _ _ _ _ _))) ?_ | refine RG.S0 (LT.skip rfl rfl rfl) ?_
    first | refine jS (rt_pick_true rfl rfl) ?_ | refine jS (rt_pick_false rfl rfl) ?_
    refine ja rfl ?_
    refine RG.nil (by kernel_rfl) ?_
    repeat (first | refine js ?_ | refine jb ?_)
    refine WpD.condF rfl ?_
    repeat (first | refine js ?_ | refine jb ?_)
    refine jr ?_
    refine jS (ru_fieldAddr rfl rfl) ?_
    refine jS (ru_load1 rfl rfl rfl) ?_
    refine jS (rt_un rfl (fun w => run_not w _)) ?_
    refine jm rfl ?_
    first | refine RG.S0 (LT.run rfl rfl rfl (rt_move rfl)) ?_ | refine RG.S0 (LT.skip rfl rfl rfl) ?_
    first | refine RG.S0 (LT.run rfl rfl rfl (rt_bin_to rfl rfl (fun w => run_lti w _ _ _ _ _ _) (vbool b2))) ?_ | refine RG.S0 (LT.skip rfl rfl rfl) ?_
    first | refine jS (rt_pick_true rfl rfl) ?_ | refine jS (rt_pick_false rfl rfl) ?_
    refine ja rfl ?_
    refine RG.nil (by kernel_rfl) ?_
    repeat (first | refine js ?_ | refine jb ?_)
    refine WpD.condT rfl ?_
    repeat (first | refine js ?_ | refine jb ?_)
    refine jr ?_
    refine jm rfl ?_
    refine jS (rt_conv_to rfl (fun w => run_convi w CInt.ok CInt.ok _ _) (vint e2)) ?_
    refine ja rfl ?_
    refine ja rfl ?_
    refine RG.nil (by kernel_rfl) ?_
    repeat (first | refine js ?_ | refine jb ?_)
    refine WpD.ret ?_
    exact ret2 rfl (.tmp rfl) (.tmp rfl) (PLe.refl _)
theorem fresidue (s : Bool) (l : List Nat) (n : Int) (hl : Lm l) (hlen : l.length ≤ 536870912) (h1 : 0 < n) (h2 : n ≤ 9223372036854775807) :
    Fn Tryd.prog En 28 [zR s l, ex (.int .i64 n)] (ex (.int .i64 (zv s l % n))) := by
  have C1 := fsmall En n (by omega) h2
  have hn2 : (digs n.natAbs).length ≤ 2 := digs_length_le (by rw [B_def]; omega)
  have C2 := frem En s l (decide (n < 0)) (digs n.natAbs) hlen (by omega) hl (lm_digs _) (by rw [zv_C]; omega)
  rw [zv_C] at C2
  have r1 := Int.emod_nonneg (zv s l) (b := n) (by omega)
  have r2 := Int.emod_lt_of_pos (zv s l) h1
  generalize zv s l % n = r at *
  have C3 := fint64 En (decide (r < 0)) (digs r.natAbs) (Nat.le_trans (digs_length_le (k := 2) (by rw [B_def]; omega)) (by omega)) (by rw [val_digs]; omega)
  rw [zv_C] at C3
  refine fn_of_body Tryd.func28 rfl Tryd.ntmps28 rfl ?_
  intro w0 h0
  repeat (first | refine js ?_ | refine jb ?_)
  refine jr ?_
  refine jT (ru_boxR rfl rfl rfl) ?_
  refine ja rfl ?_
  refine RG.nil (by kernel_rfl) ?_
  repeat (first | refine js ?_ | refine jb ?_)
  refine jr ?_
  refine jS (ru_loadR rfl rfl rfl rfl) ?_
  refine jm rfl ?_
  refine jS (ru_call C1 ⟨rfl, trivial⟩) ?_
  refine jS (ru_call C2 ⟨rfl, rfl, trivial⟩) ?_
  refine jS (ru_call C3 ⟨rfl, trivial⟩) ?_
  refine jm rfl ?_
  refine jS (rt_extract rfl rfl) ?_
  refine jS (rt_extract rfl rfl) ?_
  refine ja rfl ?_
  refine ja rfl ?_
  refine RG.nil (by kernel_rfl) ?_
  repeat (first | refine js ?_ | refine jb ?_)
  refine jr ?_
  refine jm rfl ?_
  refine ja rfl ?_
  refine RG.nil (by kernel_rfl) ?_
  repeat (first | refine js ?_ | refine jb ?_)
  refine WpD.ret ?_
  exact ret1 rfl (.tmp rfl) (PLe.refl _)
theorem pf_prime {p : Nat} (hp : isP p = true) : pf p = [p] := by
  have hb := isP_le hp
  unfold isP at hp
  simp only [Bool.and_eq_true, beq_iff_eq] at hp
  rw [pf_step (by omega), hp.2, Nat.div_self (by omega), pf_small (by omega)]
theorem leg_kr {p : Nat} (hp : isP p = true) (h2 : p ≠ 2) (a : Int) : legZ a p = krZ a p := by
  have hb := isP_le hp
  have hpr := ((isP_iff p).1 hp).1
  have ho : p % 2 = 1 := by
    have := hpr.2 2 (by omega) (by omega)
    omega
  unfold krZ
  rw [if_neg (by omega), if_neg (by omega), Int.one_mul, Int.natAbs_natCast, kr_odd a ho, pf_prime hp]
  simp [lprod]
set_option maxHeartbeats 1000000 in
theorem funit (s : Bool) (l : List Nat) (p : Int) (hl : Lm l) (hlen : l.length ≤ 536870912) :
    Fn Tryd.prog En 11 [zR s l, ex (.int .i64 p)] (tupP [ex (.int .i64 (unitV (zv s l) p)), ex (.int .i64 (unitE (zv s l) p))]) := by
  have C1 := fris En p
  unfold unitV unitE
  cases hp : isP p.toNat with
  | false =>
    rw [hp] at C1
    simp only [if_neg Bool.false_ne_true]
    refine fn_of_body Tryd.func11 rfl Tryd.ntmps11 rfl ?_
    intro w0 h0
    repeat (first | refine js ?_ | refine jb ?_)
    refine jr ?_
    refine jT (ru_boxR rfl rfl rfl) ?_
    refine ja rfl ?_
    refine ja rfl ?_
    refine RG.nil (by kernel_rfl) ?_
    repeat (first | refine js ?_ | refine jb ?_)
    refine jr ?_
    refine jm rfl ?_
    refine jS (ru_call C1 ⟨rfl, trivial⟩) ?_
    refine jS (rt_un rfl (fun w => run_not w _)) ?_
    refine RG.nil (by kernel_rfl) ?_
    repeat (first | refine js ?_ | refine jb ?_)
    refine WpD.condT rfl ?_
    repeat (first | refine js ?_ | refine jb ?_)
    refine jr ?_
    refine ja rfl ?_
    refine ja rfl ?_
    refine RG.nil (by kernel_rfl) ?_
    repeat (first | refine js ?_ | refine jb ?_)
    refine WpD.ret ?_
    exact ret2 rfl (.tmp rfl) (.tmp rfl) (PLe.refl _)
  | true =>
    rw [hp] at C1
    simp only [if_true]
    have hb := isP_le hp
    have C2 := fresidue En s l p hl hlen (by omega) (by omega)
    have C3 := fresidue En s l 8 hl hlen (by omega) (by omega)
    by_cases h0 : zv s l % p = 0
    · rw [if_pos h0, if_pos h0]
      have b1 : (zv s l % p == 0) = true := by rw [h0]; rfl
      refine fn_of_body Tryd.func11 rfl Tryd.ntmps11 rfl ?_
      intro w0 h0
      repeat (first | refine js ?_ | refine jb ?_)
      refine jr ?_
      refine jT (ru_boxR rfl rfl rfl) ?_
      refine ja rfl ?_
      refine ja rfl ?_
      refine RG.nil (by kernel_rfl) ?_
      repeat (first | refine js ?_ | refine jb ?_)
      refine jr ?_
      refine jm rfl ?_
      refine jS (ru_call C1 ⟨rfl, trivial⟩) ?_
      refine jS (rt_un rfl (fun w => run_not w _)) ?_
      refine RG.nil (by kernel_rfl) ?_
      repeat (first | refine js ?_ | refine jb ?_)
      refine WpD.condF rfl ?_
      repeat (first | refine js ?_ | refine jb ?_)
      refine WpD.skip ?_
      repeat (first | refine js ?_ | refine jb ?_)
      refine jr ?_
      refine jS (ru_loadR rfl rfl rfl rfl) ?_
      refine jm rfl ?_
      refine jS (ru_call C2 ⟨rfl, rfl, trivial⟩) ?_
      refine jS (rt_bin_to rfl rfl (fun w => run_eqi w _ _ _ _ _ _) (vbool b1)) ?_
      refine RG.nil (by kernel_rfl) ?_
      repeat (first | refine js ?_ | refine jb ?_)
      refine WpD.condT rfl ?_
      repeat (first | refine js ?_ | refine jb ?_)
      refine jr ?_
      refine ja rfl ?_
      refine ja rfl ?_
      refine RG.nil (by kernel_rfl) ?_
      repeat (first | refine js ?_ | refine jb ?_)
      refine WpD.ret ?_
      exact ret2 rfl (.tmp rfl) (.tmp rfl) (PLe.refl _)
    · rw [if_neg h0, if_neg h0]
      have b1 : (zv s l % p == 0) = false := by rw [beq_eq_false_iff_ne]; exact h0
      by_cases h2 : p = 2
      · rw [if_pos h2]
        have b2 : (p == 2) = true := by rw [h2]; rfl
        refine fn_of_body Tryd.func11 rfl Tryd.ntmps11 rfl ?_
        intro w0 h0
        repeat (first | refine js ?_ | refine jb ?_)
        refine jr ?_
        refine jT (ru_boxR rfl rfl rfl) ?_
        refine ja rfl ?_
        refine ja rfl ?_
        refine RG.nil (by kernel_rfl) ?_
        repeat (first | refine js ?_ | refine jb ?_)
        refine jr ?_
        refine jm rfl ?_
        refine jS (ru_call C1 ⟨rfl, trivial⟩) ?_
        refine jS (rt_un rfl (fun w => run_not w _)) ?_
        refine RG.nil (by kernel_rfl) ?_
        repeat (first | refine js ?_ | refine jb ?_)
        refine WpD.condF rfl ?_
        repeat (first | refine js ?_ | refine jb ?_)
        refine WpD.skip ?_
        repeat (first | refine js ?_ | refine jb ?_)
        refine jr ?_
        refine jS (ru_loadR rfl rfl rfl rfl) ?_
        refine jm rfl ?_
        refine jS (ru_call C2 ⟨rfl, rfl, trivial⟩) ?_
        refine jS (rt_bin_to rfl rfl (fun w => run_eqi w _ _ _ _ _ _) (vbool b1)) ?_
        refine RG.nil (by kernel_rfl) ?_
        repeat (first | refine js ?_ | refine jb ?_)
        refine WpD.condF rfl ?_
        repeat (first | refine js ?_ | refine jb ?_)
        refine WpD.skip ?_
        repeat (first | refine js ?_ | refine jb ?_)
        refine jr ?_
        refine jm rfl ?_
        refine jS (rt_bin_to rfl rfl (fun w => run_eqi w _ _ _ _ _ _) (vbool b2)) ?_
        refine RG.nil (by kernel_rfl) ?_
        repeat (first | refine js ?_ | refine jb ?_)
        refine WpD.condT rfl ?_
        repeat (first | refine js ?_ | refine jb ?_)
        refine jr ?_
        refine jS (ru_loadR rfl rfl rfl rfl) ?_
        refine jS (ru_call C3 ⟨rfl, rfl, trivial⟩) ?_
        refine ja rfl ?_
        refine ja rfl ?_
        refine RG.nil (by kernel_rfl) ?_
        repeat (first | refine js ?_ | refine jb ?_)
        refine WpD.ret ?_
        exact ret2 rfl (.tmp rfl) (.tmp rfl) (PLe.refl _)
      · rw [if_neg h2]
        have b2 : (p == 2) = false := by rw [beq_eq_false_iff_ne]; exact h2
        have ep : ((p.toNat : Nat) : Int) = p := by omega
        have C4 := fleg En (zv s l % p) p.toNat (by omega) (by omega)
        rw [leg_kr hp (by omega), ep] at C4
        refine fn_of_body Tryd.func11 rfl Tryd.ntmps11 rfl ?_
        intro w0 h0
        repeat (first | refine js ?_ | refine jb ?_)
        refine jr ?_
        refine jT (ru_boxR rfl rfl rfl) ?_
        refine ja rfl ?_
        refine ja rfl ?_
        refine RG.nil (by kernel_rfl) ?_
        repeat (first | refine js ?_ | refine jb ?_)
        refine jr ?_
        refine jm rfl ?_
        refine jS (ru_call C1 ⟨rfl, trivial⟩) ?_
        refine jS (rt_un rfl (fun w => run_not w _)) ?_
        refine RG.nil (by kernel_rfl) ?_
        repeat (first | refine js ?_ | refine jb ?_)
        refine WpD.condF rfl ?_
        repeat (first | refine js ?_ | refine jb ?_)
        refine WpD.skip ?_
        repeat (first | refine js ?_ | refine jb ?_)
        refine jr ?_
        refine jS (ru_loadR rfl rfl rfl rfl) ?_
        refine jm rfl ?_
        refine jS (ru_call C2 ⟨rfl, rfl, trivial⟩) ?_
        refine jS (rt_bin_to rfl rfl (fun w => run_eqi w _ _ _ _ _ _) (vbool b1)) ?_
        refine RG.nil (by kernel_rfl) ?_
        repeat (first | refine js ?_ | refine jb ?_)
        refine WpD.condF rfl ?_
        repeat (first | refine js ?_ | refine jb ?_)
        refine WpD.skip ?_
        repeat (first | refine js ?_ | refine jb ?_)
        refine jr ?_
        refine jm rfl ?_
        refine jS (rt_bin_to rfl rfl (fun w => run_eqi w _ _ _ _ _ _) (vbool b2)) ?_
        refine RG.nil (by kernel_rfl) ?_
        repeat (first | refine js ?_ | refine jb ?_)
        refine WpD.condF rfl ?_
        repeat (first | refine js ?_ | refine jb ?_)
        refine WpD.skip ?_
        repeat (first | refine js ?_ | refine jb ?_)
        refine jr ?_
        refine jS (ru_loadR rfl rfl rfl rfl) ?_
        refine jm rfl ?_
        refine jS (ru_call C2 ⟨rfl, rfl, trivial⟩) ?_
        refine jm rfl ?_
        refine jS (ru_call C4 ⟨rfl, rfl, trivial⟩) ?_
        refine ja rfl ?_
        refine ja rfl ?_
        refine RG.nil (by kernel_rfl) ?_
        repeat (first | refine js ?_ | refine jb ?_)
        refine WpD.ret ?_
        exact ret2 rfl (.tmp rfl) (.tmp rfl) (PLe.refl _)
theorem flong (s : Bool) (l : List Nat) : Fn Tryd.prog En 7 [zR s l] (ex (.bool (decide ((l.length : Int) > 20)))) := by
  refine fn_of_body Tryd.func7 rfl Tryd.ntmps7 rfl ?_
  intro w0 h0
  repeat (first | refine js ?_ | refine jb ?_)
  refine jr ?_
  refine jT (ru_boxR rfl rfl rfl) ?_
  refine ja rfl ?_
  refine RG.nil (by kernel_rfl) ?_
  repeat (first | refine js ?_ | refine jb ?_)
  refine jr ?_
  refine jS (ru_fieldAddr rfl rfl) ?_
  refine jS (ru_load1 rfl rfl rfl) ?_
  refine jS (ru_len rfl CSlice.ok) ?_
  refine jS (rt_bin rfl rfl (fun w => run_gti w _ _ _ _ _ _)) ?_
  refine ja rfl ?_
  refine RG.nil (by kernel_rfl) ?_
  repeat (first | refine js ?_ | refine jb ?_)
  refine WpD.ret ?_
  exact ret1 rfl (.tmp rfl) (PLe.refl _)
end
end Go.Proofs.YtnhbdldchoepfaaDoor

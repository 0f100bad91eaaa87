/- Fundamental discriminants and characters: the program's and the reference's. -/
import Derived.Test.YtpiflllcjgpkhaaGreatDoorBp
set_option maxRecDepth 3000
namespace Go.Proofs.YtpiflllcjgpkhaaGreatDoor
open Go.RowKit Limb Num
/-- The table of the program. -/
def TabE : Ev := ⟨Tab, fun k => k = 1, fun w ⟨t, fr, h⟩ k hk => by subst hk; exact block_lt h, fun w w' hk ⟨t, fr, h⟩ => ⟨t, fr, by rw [hk _ rfl]; exact h⟩⟩
instance cint_errno : CInt Tryz.prog 28 .i64 := ⟨Tryz.underlying28⟩
instance cbody40 : CBody Tryz.prog 40 := ⟨⟨_, Tryz.func40, rfl, by rfl⟩⟩
instance cbody107 : CBody Tryz.prog 107 := ⟨⟨_, Tryz.func107, rfl, by rfl⟩⟩
instance cbody46 : CBody Tryz.prog 46 := ⟨⟨_, Tryz.func46, rfl, by rfl⟩⟩
instance cbody105 : CBody Tryz.prog 105 := ⟨⟨_, Tryz.func105, rfl, by rfl⟩⟩
instance cbody75 : CBody Tryz.prog 75 := ⟨⟨_, Tryz.func75, rfl, by rfl⟩⟩
instance cbody43 : CBody Tryz.prog 43 := ⟨⟨_, Tryz.func43, rfl, by rfl⟩⟩
theorem sqf3 {n : Int} (h : SF n.natAbs) : n % 4 ≠ 0 := by
  intro h4
  have h2 := h 2 (by show 4 ∣ n.natAbs; omega)
  omega
theorem fund0 {d : Int} (h0 : d ≠ 0) (h4 : d % 4 = 0) : decide (disc d = d) = (decide (d / 4 % 4 ≥ 2) && decide ((sfR (d / 4) : Int) = 1)) := by
  obtain ⟨e1, _, e3⟩ := sf_ok d h0
  have hs0 : d / 4 ≠ 0 := by omega
  obtain ⟨f1, _, f3⟩ := sf_ok (d / 4) hs0
  rw [← Bool.decide_and]
  congr 1
  apply propext
  constructor
  · intro h
    unfold disc at h
    split at h
    · rename_i hS; rw [h] at hS; omega
    · have hS : sfS d = d / 4 := by omega
      rw [hS] at e3
      have hu := SqF.unique (n := d / 4) (r := 1) (u := sfR (d / 4)) (s := d / 4) (t := sfS (d / 4)) ⟨by simp, hs0, e3⟩ (sf_ok _ hs0)
      have h3 := sqf3 e3
      refine ⟨?_, by rw [← hu.2]; rfl⟩
      rename_i hn
      rw [hS] at hn
      omega
  · rintro ⟨h1, h2⟩
    have hr : sfR (d / 4) = 1 := by omega
    rw [hr] at f1
    have f1' : sfS (d / 4) = d / 4 := by simp at f1; omega
    rw [f1'] at f3
    have hu := SqF.unique (n := d) (s := d / 4) (r := 2) (t := sfS d) (u := sfR d) ⟨by simp; omega, h0, f3⟩ (sf_ok d h0)
    unfold disc
    rw [← hu.1, if_neg (by omega)]
    omega
theorem fund1 {d : Int} (h4 : d % 4 = 1) : decide (disc d = d) = decide ((sfR d : Int) = 1) := by
  have h0 : d ≠ 0 := by omega
  obtain ⟨e1, _, e3⟩ := sf_ok d h0
  congr 1
  apply propext
  constructor
  · intro h
    unfold disc at h
    split at h
    · have hu := SqF.unique (n := d) (s := d) (r := 1) (t := sfS d) (u := sfR d) ⟨by simp, h0, by rw [← h]; exact e3⟩ (sf_ok d h0)
      rw [← hu.2]; rfl
    · omega
  · intro h
    have hr : sfR d = 1 := by omega
    rw [hr] at e1
    have : sfS d = d := by simp at e1; omega
    unfold disc
    rw [this, if_pos h4]
theorem fund2 {d : Int} (h4 : d % 4 = 2 ∨ d % 4 = 3) : decide (disc d = d) = false := by
  refine decide_eq_false fun h => ?_
  unfold disc at h
  split at h
  · rename_i hS; rw [h] at hS; omega
  · omega
/-- Which numbers are fundamental discriminants. -/
def fund (d : Int) : Bool := decide (-40000 ≤ d ∧ d ≤ 40000 ∧ d ≠ 0) && decide (disc d = d)
theorem and3 (d : Int) : IntKind.i64.wrap ((BitVec.ofInt IntKind.i64.bits d &&& BitVec.ofInt IntKind.i64.bits 3).toNat) = d % 4 := by
  have h1 : (BitVec.ofInt IntKind.i64.bits d &&& BitVec.ofInt IntKind.i64.bits 3).toNat = (d % 4).toNat := by
    rw [BitVec.toNat_and]
    have h3 : (BitVec.ofInt IntKind.i64.bits 3).toNat = 2 ^ 2 - 1 := by decide
    rw [h3, Nat.and_two_pow_sub_one_eq_mod, BitVec.toNat_ofInt]
    show (d % 18446744073709551616).toNat % 4 = _
    omega
  rw [h1]
  have := Int.emod_nonneg d (b := 4) (by omega)
  have := Int.emod_lt_of_pos d (b := 4) (by omega)
  rw [Int.toNat_of_nonneg (by omega)]
  exact w64 (by omega) (by omega)
section
theorem fsqf (n : Int) (h0 : n ≠ 0) (hn : InR n) : Fn Tryz.prog TabE 40 [ex (.int .i64 n)] (tupP [ex (.int .i64 (sfS n)), ex (.int .i64 (sfR n)), ex (.int .i64 0)]) := by
  intro h w vs ht hh hv
  obtain ⟨v, rfl, h1⟩ := hv.one
  have h1 : v = .int .i64 n := h1
  subst h1
  exact (sqf_any n w h0 hn ht).mono fun _ _ ⟨he, hb⟩ => by subst he; exact fn_post hh hb ⟨[_, _, _], rfl, rfl, rfl, rfl, trivial⟩
theorem fsqf0 : Fn Tryz.prog TabE 40 [ex (.int .i64 0)] (tupP [ex (.int .i64 0), ex (.int .i64 0), ex (.int .i64 1)]) := by
  intro h w vs ht hh hv
  obtain ⟨v, rfl, h1⟩ := hv.one
  have h1 : v = .int .i64 0 := h1
  subst h1
  exact (sqf_out 0 w (.inl rfl)).mono fun _ _ ⟨he, hb⟩ => by subst he; subst hb; exact fn_post hh (Below.refl _ _) ⟨[_, _, _], rfl, rfl, rfl, rfl, trivial⟩
variable (En : Ev)
theorem grsqf (n : Int) (h0 : n ≠ 0) (hn : InR n) : Fn Tryz.prog En 107 [ex (.int .i64 n)] (tupP [ex (.int .i64 (sfS n)), ex (.int .i64 (sfR n)), ex (.int .i64 0)]) := by
  intro h w vs ht hh hv
  obtain ⟨v, rfl, h1⟩ := hv.one
  have h1 : v = .int .i64 n := h1
  subst h1
  exact (rsqf_any n w h0 hn).mono fun _ _ ⟨he, hb⟩ => by subst he; subst hb; exact fn_post hh (Below.refl _ _) ⟨[_, _, _], rfl, rfl, rfl, rfl, trivial⟩
theorem gsymbol (a n : Int) (hn : InR n) : Fn Tryz.prog En 46 [ex (.int .i64 a), ex (.int .i64 n)] (ex (.int .i64 (krZ a n))) := by
  intro h w vs _ hh hv
  obtain ⟨v, u, rfl, h1, h2⟩ := hv.two
  have h1 : v = .int .i64 a := h1
  have h2 : u = .int .i64 n := h2
  subst h1 h2
  exact (symbol_any a n w hn).mono fun _ _ ⟨he, hb⟩ => by subst he; exact fn_post hh hb rfl
theorem gmod (a n : Int) (h3 : 1 ≤ n) (h4 : n ≤ 4294967296) : Fn Tryz.prog En 105 [ex (.int .i64 a), ex (.int .i64 n)] (ex (.int .i64 (a % n))) := by
  intro h w vs _ hh hv
  obtain ⟨v, u, rfl, h1, h2⟩ := hv.two
  have h1 : v = .int .i64 a := h1
  have h2 : u = .int .i64 n := h2
  subst h1 h2
  exact (mod_any a n w h3 h4).mono fun _ _ ⟨he, hb⟩ => by subst he; subst hb; exact fn_post hh (Below.refl _ _) rfl
theorem gris (n : Int) : Fn Tryz.prog En 43 [ex (.int .i64 n)] (ex (.bool (isP n.toNat))) := by
  intro h w vs _ hh hv
  obtain ⟨v, rfl, h1⟩ := hv.one
  have h1 : v = .int .i64 n := h1
  subst h1
  exact (ris_any n w).mono fun _ _ ⟨he, hb⟩ => by subst he; subst hb; exact fn_post hh (Below.refl _ _) rfl
theorem sfS_bd {n : Int} (h0 : n ≠ 0) (hn : InR n) : -2147483647 ≤ sfS n ∧ sfS n ≤ 2147483647 := by
  have := (SqF.bound (sf_ok n h0)).1
  have := hn.1; have := hn.2
  omega
theorem grdisc (n : Int) (h0 : n ≠ 0) (hn : InR n) : Fn Tryz.prog En 75 [ex (.int .i64 n)] (tupP [ex (.int .i64 (disc n)), ex (.int .i64 0)]) := by
  have C1 := grsqf En n h0 hn
  have C2 := gmod En (sfS n) 4 (by omega) (by omega)
  obtain ⟨b1, b2⟩ := sfS_bd h0 hn
  unfold disc
  by_cases h : sfS n % 4 = 1
  · rw [if_pos h]
    refine fn_of_body Tryz.func75 rfl Tryz.ntmps75 rfl ?_
    intro w0 h0
    repeat (first | refine js ?_ | refine jb ?_)
    refine jr ?_
    refine ja rfl ?_
    refine ja rfl ?_
    refine RG.nil (by kernel_rfl) ?_
    repeat (first | refine js ?_ | refine jb ?_)
    refine jr ?_
    refine jm rfl ?_
    refine jS (ru_call C1 ⟨rfl, trivial⟩) ?_
    refine jm rfl ?_
    refine jS (rt_extract rfl rfl) ?_
    refine jS (rt_extract rfl rfl) ?_
    refine jS (rt_extract rfl rfl) ?_
    refine ja rfl ?_
    refine ja rfl ?_
    refine ja rfl ?_
    refine RG.nil (by kernel_rfl) ?_
    repeat (first | refine js ?_ | refine jb ?_)
    refine jr ?_
    refine jm rfl ?_
    refine jS (rt_bin_to rfl rfl (fun w => run_nei w _ _ _ _ _ _) (vbool (bneF (by first | assumption | omega)))) ?_
    refine RG.nil (by kernel_rfl) ?_
    repeat (first | refine js ?_ | refine jb ?_)
    refine WpD.condF rfl ?_
    repeat (first | refine js ?_ | refine jb ?_)
    refine WpD.skip ?_
    repeat (first | refine js ?_ | refine jb ?_)
    refine jr ?_
    refine jm rfl ?_
    refine jS (ru_call C2 ⟨rfl, rfl, trivial⟩) ?_
    refine jS (rt_bin_to rfl rfl (fun w => run_eqi w _ _ _ _ _ _) (vbool (beqT (by first | assumption | omega)))) ?_
    refine RG.nil (by kernel_rfl) ?_
    repeat (first | refine js ?_ | refine jb ?_)
    refine WpD.condT rfl ?_
    repeat (first | refine js ?_ | refine jb ?_)
    refine jr ?_
    refine jm rfl ?_
    refine ja rfl ?_
    refine ja rfl ?_
    refine RG.nil (by kernel_rfl) ?_
    repeat (first | refine js ?_ | refine jb ?_)
    refine WpD.ret ?_
    exact ret2 rfl (.tmp rfl) (.tmp rfl) (PLe.refl _)
  · rw [if_neg h]
    have e : IntKind.i64.wrap (4 * sfS n) = 4 * sfS n := w64 (by omega) (by omega)
    refine fn_of_body Tryz.func75 rfl Tryz.ntmps75 rfl ?_
    intro w0 h0
    repeat (first | refine js ?_ | refine jb ?_)
    refine jr ?_
    refine ja rfl ?_
    refine ja rfl ?_
    refine RG.nil (by kernel_rfl) ?_
    repeat (first | refine js ?_ | refine jb ?_)
    refine jr ?_
    refine jm rfl ?_
    refine jS (ru_call C1 ⟨rfl, trivial⟩) ?_
    refine jm rfl ?_
    refine jS (rt_extract rfl rfl) ?_
    refine jS (rt_extract rfl rfl) ?_
    refine jS (rt_extract rfl rfl) ?_
    refine ja rfl ?_
    refine ja rfl ?_
    refine ja rfl ?_
    refine RG.nil (by kernel_rfl) ?_
    repeat (first | refine js ?_ | refine jb ?_)
    refine jr ?_
    refine jm rfl ?_
    refine jS (rt_bin_to rfl rfl (fun w => run_nei w _ _ _ _ _ _) (vbool (bneF (by first | assumption | omega)))) ?_
    refine RG.nil (by kernel_rfl) ?_
    repeat (first | refine js ?_ | refine jb ?_)
    refine WpD.condF rfl ?_
    repeat (first | refine js ?_ | refine jb ?_)
    refine WpD.skip ?_
    repeat (first | refine js ?_ | refine jb ?_)
    refine jr ?_
    refine jm rfl ?_
    refine jS (ru_call C2 ⟨rfl, rfl, trivial⟩) ?_
    refine jS (rt_bin_to rfl rfl (fun w => run_eqi w _ _ _ _ _ _) (vbool (beqF (by first | assumption | omega)))) ?_
    refine RG.nil (by kernel_rfl) ?_
    repeat (first | refine js ?_ | refine jb ?_)
    refine WpD.condF rfl ?_
    repeat (first | refine js ?_ | refine jb ?_)
    refine WpD.skip ?_
    repeat (first | refine js ?_ | refine jb ?_)
    refine jr ?_
    refine jm rfl ?_
    refine jS (rt_bin_to rfl rfl (fun w => run_muli w _ _ _ _ _ _) (vint e)) ?_
    refine ja rfl ?_
    refine ja rfl ?_
    refine RG.nil (by kernel_rfl) ?_
    repeat (first | refine js ?_ | refine jb ?_)
    refine WpD.ret ?_
    exact ret2 rfl (.tmp rfl) (.tmp rfl) (PLe.refl _)
/-- What a character answers. -/
def charA (d a : Int) : Pd := if fund d = true ∧ (-2147483647 ≤ a ∧ a ≤ 2147483647) then tupP [ex (.int .i64 (krZ d a)), ex (.int .i64 0)] else tupP [ex (.int .i64 0), ex (.int .i64 1)]
theorem fund_bd {d : Int} (h : fund d = true) : -40000 ≤ d ∧ d ≤ 40000 ∧ d ≠ 0 ∧ disc d = d := by
  unfold fund at h
  simp only [Bool.and_eq_true, decide_eq_true_eq] at h
  exact ⟨h.1.1, h.1.2.1, h.1.2.2, h.2⟩
end
end Go.Proofs.YtpiflllcjgpkhaaGreatDoor

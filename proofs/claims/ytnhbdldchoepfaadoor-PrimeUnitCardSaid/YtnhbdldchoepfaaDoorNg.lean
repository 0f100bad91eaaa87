/- Natural numbers of the program: leading zeros, divNat. -/
import Derived.Test.YtnhbdldchoepfaaDoorNf
import Derived.Test.YtnhbdldchoepfaaDoorLimb6
namespace Go.Proofs.YtnhbdldchoepfaaDoor
open Go.RowKit Limb
instance : CInt Tryd.prog 5 .u8 := ⟨Tryd.underlying5⟩
def len8 (j : Nat) : Nat := if j = 0 then 0 else Nat.log2 j + 1
def tabOK (S : ByteArray) : Bool := (List.range 256).all fun j => match S.data[j]? with | some b => Nat.beq b.toNat (len8 j) | none => false
theorem idx_run {P : Program} (w : World) {T : TypeId} (hT : P.underlying T = some .string) {S : ByteArray} (hS : tabOK S = true) (k : IntKind) {i : Nat} (hi : i < 256) : (Instr.index T (.string S) (.int k (i : Int))).run P w = .ok (.int .u8 ((len8 i : Nat) : Int)) w := by
  have h := List.all_eq_true.1 hS i (List.mem_range.2 hi)
  cases hb : S.data[i]? with
  | none => rw [hb] at h; cases h
  | some b =>
    rw [hb] at h
    have h := Nat.eq_of_beq_eq_true h
    have hlt := (Array.getElem?_eq_some_iff.1 hb).1
    have hs : S[i]? = some b := by
      have : i < S.size := hlt
      rw [getElem?_pos S i this]
      have := (Array.getElem?_eq_some_iff.1 hb).2
      exact congrArg some this
    have h0 : (0 : Int) ≤ (i : Int) := Int.natCast_nonneg _
    simp only [Instr.index, asIntOf, Sem.run_bind, Sem.run_pure, Result.andThen_ok, run_underlying hT, if_pos h0, Int.toNat_natCast, hs, h]
theorem log2_shift {t k : Nat} (h : t / 2 ^ k ≠ 0) : Nat.log2 (t / 2 ^ k) + k = Nat.log2 t := by
  have h1 := Nat.log2_self_le h
  have h2 : t / 2 ^ k < 2 ^ (Nat.log2 (t / 2 ^ k) + 1) := Nat.lt_log2_self
  generalize Nat.log2 (t / 2 ^ k) = l at *
  have ht : t ≠ 0 := by rintro rfl; simp at h
  symm
  rw [Nat.log2_eq_iff ht]
  rw [Nat.le_div_iff_mul_le (Nat.two_pow_pos k), ← Nat.pow_add] at h1
  rw [Nat.div_lt_iff_lt_mul (Nat.two_pow_pos k), ← Nat.pow_add] at h2
  exact ⟨h1, by rw [show l + k + 1 = l + 1 + k by omega]; exact h2⟩
theorem shrN (c k : Nat) (hk : k ≤ 32) : (c : Int).fdiv (2 ^ (min ((k : Nat) : Int).toNat IntKind.u32.bits)) = ((c / 2 ^ k : Nat) : Int) := by
  rw [Int.toNat_natCast, show min k IntKind.u32.bits = k from Nat.min_eq_left hk]
  rw [Int.fdiv_eq_ediv_of_nonneg _ (by exact_mod_cast Nat.zero_le _)]
  norm_cast
section
variable (En : Ev)
theorem nlen32 (t : Nat) (ht0 : t ≠ 0) (hB : t < B) : Fn Tryd.prog En 70 [lb t] (ex (.int .i64 ((Nat.log2 t + 1 : Nat) : Int))) := by
  have hl : Nat.log2 t < 32 := (Nat.log2_lt ht0).2 hB
  rw [B_def] at hB
  refine fn_of_body Tryd.func70 rfl Tryd.ntmps70 rfl ?_
  intro w0 h0
  repeat (first | refine WpD.seq ?_ | refine WpD.block ?_)
  refine WpD.reg ?_
  refine RG.S0 (LT.plain rfl (rt_assign rfl)) ?_
  refine RG.nil (by kernel_rfl) ?_
  refine WpD.cut (α := {p : Nat × Nat // p.1 ≠ 0 ∧ p.1 < 65536 ∧ Nat.log2 p.1 + p.2 = Nat.log2 t}) (fun p => ⟨[(0, .one (lb p.1.1)), (2, .one (ex (.int .i64 (p.1.2 : Int))))], []⟩) ?_ ?_
  · by_cases h : 65536 ≤ t
    · have b1 : decide ((t : Int) ≥ 65536) = true := decide_eq_true (by omega)
      have e1 : (t : Int).fdiv (2 ^ (min (16 : Int).toNat IntKind.u32.bits)) = ((t / 65536 : Nat) : Int) := shrN t 16 (by omega)
      have hne : t / 2 ^ 16 ≠ 0 := by have : (2 : Nat) ^ 16 = 65536 := by decide
                                      rw [this]; omega
      repeat (first | refine WpD.seq ?_ | refine WpD.block ?_)
      refine WpD.reg ?_
      refine RG.S0 (LT.plain rfl (rt_move rfl)) ?_
      refine RG.S0 (LT.plain rfl (rt_bin_to rfl rfl (fun w => run_gei w _ _ _ _ _ _) (vbool b1))) ?_
      refine RG.nil (by kernel_rfl) ?_
      repeat (first | refine WpD.seq ?_ | refine WpD.block ?_)
      refine WpD.condT rfl ?_
      repeat (first | refine WpD.seq ?_ | refine WpD.block ?_)
      refine WpD.reg ?_
      refine RG.S0 (LT.plain rfl (rt_move rfl)) ?_
      refine RG.S0 (LT.plain rfl (rt_bin_to rfl rfl (fun w => run_shri w _ _ _ _ _ _ _ (by first | decide | omega | assumption)) (vint e1))) ?_
      refine RG.S0 (LT.plain rfl (rt_assign rfl)) ?_
      refine RG.nil (by kernel_rfl) ?_
      repeat (first | refine WpD.seq ?_ | refine WpD.block ?_)
      refine WpD.reg ?_
      refine RG.S0 (LT.plain rfl (rt_assign rfl)) ?_
      refine RG.nil (by kernel_rfl) ?_
      refine ⟨⟨(t / 65536, 16), hne, by simp only; omega, log2_shift (k := 16) hne⟩, ?_⟩
      refine Sub.mk ?_ ?_
      · repeat (first | exact trivial | refine ⟨⟨_, rfl, ⟨rfl, rfl⟩⟩, Option.some_ne_none _, ?_⟩ | refine ⟨⟨_, rfl, ⟨rfl, rfl, rfl, rfl⟩⟩, Option.some_ne_none _, ?_⟩ | refine ⟨⟨_, rfl, PLe.refl _⟩, trivial, ?_⟩)
      · repeat (first | exact trivial | refine ⟨⟨_, rfl, PsLe.refl _⟩, ?_⟩)
    · have b1 : decide ((t : Int) ≥ 65536) = false := decide_eq_false (by omega)
      repeat (first | refine WpD.seq ?_ | refine WpD.block ?_)
      refine WpD.reg ?_
      refine RG.S0 (LT.plain rfl (rt_move rfl)) ?_
      refine RG.S0 (LT.plain rfl (rt_bin_to rfl rfl (fun w => run_gei w _ _ _ _ _ _) (vbool b1))) ?_
      refine RG.nil (by kernel_rfl) ?_
      repeat (first | refine WpD.seq ?_ | refine WpD.block ?_)
      refine WpD.condF rfl ?_
      repeat (first | refine WpD.seq ?_ | refine WpD.block ?_)
      refine WpD.skip ?_
      refine ⟨⟨(t, 0), ht0, by simp only; omega, rfl⟩, ?_⟩
      refine Sub.mk ?_ ?_
      · repeat (first | exact trivial | refine ⟨⟨_, rfl, ⟨rfl, rfl⟩⟩, Option.some_ne_none _, ?_⟩ | refine ⟨⟨_, rfl, ⟨rfl, rfl, rfl, rfl⟩⟩, Option.some_ne_none _, ?_⟩ | refine ⟨⟨_, rfl, PLe.refl _⟩, trivial, ?_⟩)
      · repeat (first | exact trivial | refine ⟨⟨_, rfl, PsLe.refl _⟩, ?_⟩)
  rintro ⟨⟨x, n⟩, hx0, hx, hl2⟩
  simp only at hx0 hx hl2
  dsimp only
  refine WpD.cut (α := {p : Nat × Nat // p.1 ≠ 0 ∧ p.1 < 256 ∧ Nat.log2 p.1 + p.2 = Nat.log2 t}) (fun p => ⟨[(0, .one (lb p.1.1)), (2, .one (ex (.int .i64 (p.1.2 : Int))))], []⟩) ?_ ?_
  · by_cases h : 256 ≤ x
    · have b1 : decide ((x : Int) ≥ 256) = true := decide_eq_true (by omega)
      have e1 : (x : Int).fdiv (2 ^ (min (8 : Int).toNat IntKind.u32.bits)) = ((x / 256 : Nat) : Int) := shrN x 8 (by omega)
      have e2 : IntKind.i64.wrap ((n : Int) + 8) = ((n + 8 : Nat) : Int) := by rw [w64 (by omega) (by omega)]; omega
      have hne : x / 2 ^ 8 ≠ 0 := by have : (2 : Nat) ^ 8 = 256 := by decide
                                     rw [this]; omega
      have hlg := log2_shift (k := 8) hne
      repeat (first | refine WpD.seq ?_ | refine WpD.block ?_)
      refine WpD.reg ?_
      refine RG.S0 (LT.plain rfl (rt_move rfl)) ?_
      refine RG.S0 (LT.plain rfl (rt_bin_to rfl rfl (fun w => run_gei w _ _ _ _ _ _) (vbool b1))) ?_
      refine RG.nil (by kernel_rfl) ?_
      repeat (first | refine WpD.seq ?_ | refine WpD.block ?_)
      refine WpD.condT rfl ?_
      repeat (first | refine WpD.seq ?_ | refine WpD.block ?_)
      refine WpD.reg ?_
      refine RG.S0 (LT.plain rfl (rt_move rfl)) ?_
      refine RG.S0 (LT.plain rfl (rt_bin_to rfl rfl (fun w => run_shri w _ _ _ _ _ _ _ (by first | decide | omega | assumption)) (vint e1))) ?_
      refine RG.S0 (LT.plain rfl (rt_assign rfl)) ?_
      refine RG.nil (by kernel_rfl) ?_
      repeat (first | refine WpD.seq ?_ | refine WpD.block ?_)
      refine WpD.reg ?_
      refine RG.S0 (LT.plain rfl (rt_move rfl)) ?_
      refine RG.S0 (LT.plain rfl (rt_bin_to rfl rfl (fun w => run_addi w _ _ _ _ _ _) (vint e2))) ?_
      refine RG.S0 (LT.plain rfl (rt_assign rfl)) ?_
      refine RG.nil (by kernel_rfl) ?_
      refine ⟨⟨(x / 256, n + 8), hne, by simp only; omega, by simp only; have : x / 2 ^ 8 = x / 256 := rfl; rw [this] at hlg; omega⟩, ?_⟩
      refine Sub.mk ?_ ?_
      · repeat (first | exact trivial | refine ⟨⟨_, rfl, ⟨rfl, rfl⟩⟩, Option.some_ne_none _, ?_⟩ | refine ⟨⟨_, rfl, ⟨rfl, rfl, rfl, rfl⟩⟩, Option.some_ne_none _, ?_⟩ | refine ⟨⟨_, rfl, PLe.refl _⟩, trivial, ?_⟩)
      · repeat (first | exact trivial | refine ⟨⟨_, rfl, PsLe.refl _⟩, ?_⟩)
    · have b1 : decide ((x : Int) ≥ 256) = false := decide_eq_false (by omega)
      repeat (first | refine WpD.seq ?_ | refine WpD.block ?_)
      refine WpD.reg ?_
      refine RG.S0 (LT.plain rfl (rt_move rfl)) ?_
      refine RG.S0 (LT.plain rfl (rt_bin_to rfl rfl (fun w => run_gei w _ _ _ _ _ _) (vbool b1))) ?_
      refine RG.nil (by kernel_rfl) ?_
      repeat (first | refine WpD.seq ?_ | refine WpD.block ?_)
      refine WpD.condF rfl ?_
      repeat (first | refine WpD.seq ?_ | refine WpD.block ?_)
      refine WpD.skip ?_
      refine ⟨⟨(x, n), hx0, by simp only; omega, hl2⟩, ?_⟩
      refine Sub.mk ?_ ?_
      · repeat (first | exact trivial | refine ⟨⟨_, rfl, ⟨rfl, rfl⟩⟩, Option.some_ne_none _, ?_⟩ | refine ⟨⟨_, rfl, ⟨rfl, rfl, rfl, rfl⟩⟩, Option.some_ne_none _, ?_⟩ | refine ⟨⟨_, rfl, PLe.refl _⟩, trivial, ?_⟩)
      · repeat (first | exact trivial | refine ⟨⟨_, rfl, PsLe.refl _⟩, ?_⟩)
  clear hx0 hx hl2
  rintro ⟨⟨z, m⟩, hz0, hz, hl3⟩
  simp only at hz0 hz hl3
  dsimp only
  have e2 : IntKind.u8.wrap (z : Int) = (z : Int) := by rw [IntKind.wrap_u8]; omega
  have h8 : len8 z = Nat.log2 z + 1 := by unfold len8; rw [if_neg hz0]
  have e4 : IntKind.i64.wrap ((len8 z : Nat) : Int) = ((len8 z : Nat) : Int) := by rw [h8]; exact w64 (by omega) (by omega)
  have e5 : IntKind.i64.wrap ((m : Int) + ((len8 z : Nat) : Int)) = ((Nat.log2 t + 1 : Nat) : Int) := by rw [h8, w64 (by omega) (by omega)]; omega
  repeat (first | refine WpD.seq ?_ | refine WpD.block ?_)
  refine WpD.reg ?_
  refine RG.S0 (LT.plain rfl (rt_move rfl)) ?_
  refine RG.S0 (LT.plain rfl (rt_move rfl)) ?_
  refine RG.S0 (LT.plain rfl (rt_conv_to rfl (fun w => run_convi w CInt.ok CInt.ok _ _) (vint e2))) ?_
  refine RG.S0 (LT.plain rfl (rt_idx rfl rfl (fun w => idx_run w Tryd.underlying9 (by kernel_rfl) _ hz))) ?_
  refine RG.S0 (LT.plain rfl (rt_conv_to rfl (fun w => run_convi w CInt.ok CInt.ok _ _) (vint e4))) ?_
  refine RG.S0 (LT.plain rfl (rt_bin_to rfl rfl (fun w => run_addi w _ _ _ _ _ _) (vint e5))) ?_
  refine RG.S0 (LT.plain rfl (rt_assign rfl)) ?_
  refine RG.nil (by kernel_rfl) ?_
  repeat (first | refine WpD.seq ?_ | refine WpD.block ?_)
  refine WpD.ret ?_
  exact ret1 rfl (.tmp rfl) (PLe.refl _)
theorem nlz32 (t : Nat) (h0 : t ≠ 0) (hB : t < B) : Fn Tryd.prog En 61 [lb t] (ex (.int .i64 ((lz t : Nat) : Int))) := by
  have C1 := nlen32 En t h0 hB
  have hl : Nat.log2 t < 32 := (Nat.log2_lt h0).2 hB
  have e2 : IntKind.i64.wrap (32 - ((Nat.log2 t + 1 : Nat) : Int)) = ((lz t : Nat) : Int) := by unfold lz; rw [w64 (by omega) (by omega)]; omega
  refine fn_of_body Tryd.func61 rfl Tryd.ntmps61 rfl ?_
  intro w0 h0
  repeat (first | refine WpD.seq ?_ | refine WpD.block ?_)
  refine WpD.reg ?_
  refine RG.S0 (LT.plain rfl (rt_assign rfl)) ?_
  refine RG.nil (by kernel_rfl) ?_
  repeat (first | refine WpD.seq ?_ | refine WpD.block ?_)
  refine WpD.reg ?_
  refine RG.S0 (LT.plain rfl (rt_move rfl)) ?_
  refine RG.S0 (LT.plain rfl (ru_call C1 ⟨rfl, trivial⟩)) ?_
  refine RG.S0 (LT.plain rfl (rt_bin_to rfl rfl (fun w => run_subi w _ _ _ _ _ _) (vint e2))) ?_
  refine RG.S0 (LT.plain rfl (rt_assign rfl)) ?_
  refine RG.nil (by kernel_rfl) ?_
  repeat (first | refine WpD.seq ?_ | refine WpD.block ?_)
  refine WpD.ret ?_
  exact ret1 rfl (.tmp rfl) (PLe.refl _)
/-- Quotient and rest. -/
def DivP (x y : Nat) : Pd := tupP [mag (digs (x / y)), mag (digs (x % y))]
theorem ndiv_less (x y : Nat) (hx : (digs x).length ≤ 549755813888) (hxy : x < y) : Fn Tryd.prog En 42 [mag (digs x), mag (digs y)] (DivP x y) := by
  have C1 := ncompare En (digs x) (digs y) (by omega) (lm_digs _) (lm_digs _)
  rw [cmpL_digs, if_pos hxy] at C1
  have C2 := nclone En (digs x) (lm_digs _) (by omega)
  have b1 : decide ((-1 : Int) < 0) = true := by decide
  unfold DivP
  rw [Nat.div_eq_of_lt hxy, Nat.mod_eq_of_lt hxy]
  refine fn_of_body Tryd.func42 rfl Tryd.ntmps42 rfl ?_
  intro w0 h0
  repeat (first | refine WpD.seq ?_ | refine WpD.block ?_)
  refine WpD.reg ?_
  refine RG.S0 (LT.plain rfl (rt_assign rfl)) ?_
  refine RG.S0 (LT.plain rfl (rt_assign rfl)) ?_
  refine RG.nil (by kernel_rfl) ?_
  repeat (first | refine WpD.seq ?_ | refine WpD.block ?_)
  refine WpD.reg ?_
  refine RG.S0 (LT.plain rfl (rt_move rfl)) ?_
  refine RG.S0 (LT.plain rfl (rt_move rfl)) ?_
  refine RG.S0 (LT.plain rfl (ru_call C1 ⟨rfl, rfl, trivial⟩)) ?_
  refine RG.S0 (LT.plain rfl (rt_bin_to rfl rfl (fun w => run_lti w _ _ _ _ _ _) (vbool b1))) ?_
  refine RG.S0 (LT.plain rfl (rt_assign rfl)) ?_
  refine RG.nil (by kernel_rfl) ?_
  repeat (first | refine WpD.seq ?_ | refine WpD.block ?_)
  refine WpD.condT rfl ?_
  repeat (first | refine WpD.seq ?_ | refine WpD.block ?_)
  refine WpD.reg ?_
  refine RG.S0 (LT.plain rfl (rt_move rfl)) ?_
  refine RG.S0 (LT.plain rfl (ru_call C2 ⟨rfl, trivial⟩)) ?_
  refine RG.S0 (LT.plain rfl (rt_assign rfl)) ?_
  refine RG.S0 (LT.plain rfl (rt_assign rfl)) ?_
  refine RG.nil (by kernel_rfl) ?_
  repeat (first | refine WpD.seq ?_ | refine WpD.block ?_)
  refine WpD.ret ?_
  refine ret2 rfl (.tmp rfl) (.tmp rfl) ?_
  rintro h v ⟨vs, rfl, ha⟩
  obtain ⟨u, w, rfl, h1, h2⟩ := ha.two
  exact ⟨_, rfl, mag_nil _ _ h1, h2, trivial⟩
theorem cmp_ge {x y : Nat} (h : y ≤ x) : decide (cmpL (digs x) (digs y) < 0) = false := by
  rw [cmpL_digs, if_neg (by omega)]; split <;> rfl
theorem ndiv_word (x y : Nat) (hxy : y ≤ x) (hy : y ≠ 0) (h2 : (digs x).length ≤ 2) : Fn Tryd.prog En 42 [mag (digs x), mag (digs y)] (DivP x y) := by
  have hl := digs_mono hxy
  have C1 := ncompare En (digs x) (digs y) (by omega) (lm_digs _) (lm_digs _)
  have C2 := nword En (digs x) (lm_digs _) h2
  have C3 := nword En (digs y) (lm_digs _) (by omega)
  rw [val_digs] at C2 C3
  have hxlt : x < 18446744073709551616 := by
    have h1 := lt_of_digs x
    have h3 : B ^ (digs x).length ≤ B ^ 2 := Nat.pow_le_pow_right B_pos h2
    have e : B ^ 2 = 18446744073709551616 := by decide
    omega
  have hq : x / y < 18446744073709551616 := Nat.lt_of_le_of_lt (Nat.div_le_self _ _) hxlt
  have hr : x % y < 18446744073709551616 := Nat.lt_of_le_of_lt (Nat.mod_le _ _) hxlt
  have C4 := nfromWord En (x / y) hq
  have C5 := nfromWord En (x % y) hr
  have b2 : decide (((digs x).length : Int) ≤ 2) = true := decide_eq_true (by omega)
  have hy0 : (y : Int) ≠ 0 := by omega
  have e2 : IntKind.u64.wrap ((x : Int).tdiv (y : Int)) = ((x / y : Nat) : Int) := by
    rw [Int.tdiv_eq_ediv_of_nonneg (Int.natCast_nonneg _), ← Int.natCast_ediv]
    exact wu64 (Int.natCast_nonneg _) (Int.ofNat_lt.2 hq)
  have e6 : (x : Int).tmod (y : Int) = ((x % y : Nat) : Int) := by rw [Int.tmod_eq_emod_of_nonneg (Int.natCast_nonneg _), ← Int.natCast_emod]
  refine fn_of_body Tryd.func42 rfl Tryd.ntmps42 rfl ?_
  intro w0 h0
  repeat (first | refine WpD.seq ?_ | refine WpD.block ?_)
  refine WpD.reg ?_
  refine RG.S0 (LT.plain rfl (rt_assign rfl)) ?_
  refine RG.S0 (LT.plain rfl (rt_assign rfl)) ?_
  refine RG.nil (by kernel_rfl) ?_
  repeat (first | refine WpD.seq ?_ | refine WpD.block ?_)
  refine WpD.reg ?_
  refine RG.S0 (LT.plain rfl (rt_move rfl)) ?_
  refine RG.S0 (LT.plain rfl (rt_move rfl)) ?_
  refine RG.S0 (LT.plain rfl (ru_call C1 ⟨rfl, rfl, trivial⟩)) ?_
  refine RG.S0 (LT.plain rfl (rt_bin_to rfl rfl (fun w => run_lti w _ _ _ _ _ _) (vbool (cmp_ge hxy)))) ?_
  refine RG.S0 (LT.plain rfl (rt_assign rfl)) ?_
  refine RG.nil (by kernel_rfl) ?_
  repeat (first | refine WpD.seq ?_ | refine WpD.block ?_)
  refine WpD.condF rfl ?_
  repeat (first | refine WpD.seq ?_ | refine WpD.block ?_)
  refine WpD.reg ?_
  refine RG.S0 (LT.plain rfl (rt_move rfl)) ?_
  refine RG.S0 (LT.plain rfl (ru_len rfl CSlice.ok)) ?_
  refine RG.S0 (LT.plain rfl (rt_bin_to rfl rfl (fun w => run_lei w _ _ _ _ _ _) (vbool b2))) ?_
  refine RG.S0 (LT.plain rfl (rt_assign rfl)) ?_
  refine RG.nil (by kernel_rfl) ?_
  repeat (first | refine WpD.seq ?_ | refine WpD.block ?_)
  refine WpD.condT rfl ?_
  repeat (first | refine WpD.seq ?_ | refine WpD.block ?_)
  refine WpD.reg ?_
  refine RG.S0 (LT.plain rfl (rt_move rfl)) ?_
  refine RG.S0 (LT.plain rfl (ru_call C2 ⟨rfl, trivial⟩)) ?_
  refine RG.S0 (LT.plain rfl (rt_move rfl)) ?_
  refine RG.S0 (LT.plain rfl (ru_call C3 ⟨rfl, trivial⟩)) ?_
  refine RG.S0 (LT.plain rfl (rt_assign rfl)) ?_
  refine RG.S0 (LT.plain rfl (rt_assign rfl)) ?_
  refine RG.nil (by kernel_rfl) ?_
  repeat (first | refine WpD.seq ?_ | refine WpD.block ?_)
  refine WpD.reg ?_
  refine RG.S0 (LT.plain rfl (rt_move rfl)) ?_
  refine RG.S0 (LT.plain rfl (rt_move rfl)) ?_
  refine RG.S0 (LT.plain rfl (rt_bin_to rfl rfl (fun w => run_quoi w _ _ _ _ _ _ (by first | decide | omega | assumption)) (vint e2))) ?_
  refine RG.S0 (LT.plain rfl (ru_call C4 ⟨rfl, trivial⟩)) ?_
  refine RG.S0 (LT.plain rfl (rt_move rfl)) ?_
  refine RG.S0 (LT.plain rfl (rt_move rfl)) ?_
  refine RG.S0 (LT.plain rfl (rt_bin_to rfl rfl (fun w => run_remi w _ _ _ _ _ _ (by first | decide | omega | assumption)) (vint e6))) ?_
  refine RG.S0 (LT.plain rfl (ru_call C5 ⟨rfl, trivial⟩)) ?_
  refine RG.S0 (LT.plain rfl (rt_assign rfl)) ?_
  refine RG.S0 (LT.plain rfl (rt_assign rfl)) ?_
  refine RG.nil (by kernel_rfl) ?_
  repeat (first | refine WpD.seq ?_ | refine WpD.block ?_)
  refine WpD.ret ?_
  exact ret2 rfl (.tmp rfl) (.tmp rfl) (PLe.refl _)
theorem ndiv_limb (x y : Nat) (hxy : y ≤ x) (hlen : (digs x).length ≤ 549755813888) (h2 : 2 < (digs x).length) (h1 : (digs y).length = 1) : Fn Tryd.prog En 42 [mag (digs x), mag (digs y)] (DivP x y) := by
  have hyB : y < B := by have := lt_of_digs y; rwa [h1, Nat.pow_one] at this
  have hy : y ≠ 0 := by rintro rfl; simp [digs_zero] at h1
  have hyd : digs y = [y] := by
    rw [digs_step hy, Nat.mod_eq_of_lt hyB, Nat.div_eq_of_lt hyB, digs_zero]
  have hne : digs x ≠ [] := by intro h; rw [h] at h2; simp at h2
  have C1 := ncompare En (digs x) (digs y) (by omega) (lm_digs _) (lm_digs _)
  have C2 := nclone_own En (digs x) hne (by omega)
  have C3 := ndivLimb En (digs x) [] y (digs x).length (by omega) (lm_digs _) (by omega) hyB
  rw [val_digs, List.append_nil, List.append_nil] at C3
  have hqlt : x / y < B ^ (digs x).length := Nat.lt_of_le_of_lt (Nat.div_le_self _ _) (lt_of_digs x)
  have C4 := ntrim En (pd (x / y) (digs x).length) (pd_lm _ _) (by rw [pd_length]; omega)
  rw [pd_val _ _ hqlt] at C4
  have hrlt : x % y < B := Nat.lt_trans (Nat.mod_lt _ (by omega)) hyB
  have C5 := nfromWord En (x % y) (by rw [B_def] at hrlt; omega)
  have b2 : decide (((digs x).length : Int) ≤ 2) = false := decide_eq_false (by omega)
  have b3 : (((digs y).length : Int) == 1) = true := by rw [h1]; rfl
  have hget : (digs y)[0]? = some y := by rw [hyd]; rfl
  have e3 : IntKind.u64.wrap ((x % y : Nat) : Int) = ((x % y : Nat) : Int) := wu64 (Int.natCast_nonneg _) (Int.ofNat_lt.2 (Nat.lt_trans hrlt (by decide)))
  have hpl : PLe (arrP ((pd (x / y) (digs x).length).map lb) 0 (digs x).length (digs x).length) (mag (pd (x / y) (digs x).length)) := by
    have := arr_mag0 (l := pd (x / y) (digs x).length) (cap := (digs x).length) (by rw [pd_length]; omega) (pd_lm _ _)
    rwa [pd_length] at this
  refine fn_of_body Tryd.func42 rfl Tryd.ntmps42 rfl ?_
  intro w0 h0
  repeat (first | refine WpD.seq ?_ | refine WpD.block ?_)
  refine WpD.reg ?_
  refine RG.S0 (LT.plain rfl (rt_assign rfl)) ?_
  refine RG.S0 (LT.plain rfl (rt_assign rfl)) ?_
  refine RG.nil (by kernel_rfl) ?_
  repeat (first | refine WpD.seq ?_ | refine WpD.block ?_)
  refine WpD.reg ?_
  refine RG.S0 (LT.plain rfl (rt_move rfl)) ?_
  refine RG.S0 (LT.plain rfl (rt_move rfl)) ?_
  refine RG.S0 (LT.plain rfl (ru_call C1 ⟨rfl, rfl, trivial⟩)) ?_
  refine RG.S0 (LT.plain rfl (rt_bin_to rfl rfl (fun w => run_lti w _ _ _ _ _ _) (vbool (cmp_ge hxy)))) ?_
  refine RG.S0 (LT.plain rfl (rt_assign rfl)) ?_
  refine RG.nil (by kernel_rfl) ?_
  repeat (first | refine WpD.seq ?_ | refine WpD.block ?_)
  refine WpD.condF rfl ?_
  repeat (first | refine WpD.seq ?_ | refine WpD.block ?_)
  refine WpD.reg ?_
  refine RG.S0 (LT.plain rfl (rt_move rfl)) ?_
  refine RG.S0 (LT.plain rfl (ru_len rfl CSlice.ok)) ?_
  refine RG.S0 (LT.plain rfl (rt_bin_to rfl rfl (fun w => run_lei w _ _ _ _ _ _) (vbool b2))) ?_
  refine RG.S0 (LT.plain rfl (rt_assign rfl)) ?_
  refine RG.nil (by kernel_rfl) ?_
  repeat (first | refine WpD.seq ?_ | refine WpD.block ?_)
  refine WpD.condF rfl ?_
  repeat (first | refine WpD.seq ?_ | refine WpD.block ?_)
  refine WpD.reg ?_
  refine RG.S0 (LT.plain rfl (rt_move rfl)) ?_
  refine RG.S0 (LT.plain rfl (ru_len rfl CSlice.ok)) ?_
  refine RG.S0 (LT.plain rfl (rt_bin_to rfl rfl (fun w => run_eqi w _ _ _ _ _ _) (vbool b3))) ?_
  refine RG.S0 (LT.plain rfl (rt_assign rfl)) ?_
  refine RG.nil (by kernel_rfl) ?_
  repeat (first | refine WpD.seq ?_ | refine WpD.block ?_)
  refine WpD.condT rfl ?_
  repeat (first | refine WpD.seq ?_ | refine WpD.block ?_)
  refine WpD.reg ?_
  refine RG.S0 (LT.plain rfl (rt_move rfl)) ?_
  refine RG.S1 (LT.plain rfl (ru_callO C2 rfl ⟨rfl, trivial⟩ rfl rfl)) ?_
  refine RG.S0 (LT.plain rfl (rt_assign rfl)) ?_
  refine RG.nil (by kernel_rfl) ?_
  repeat (first | refine WpD.seq ?_ | refine WpD.block ?_)
  refine WpD.reg ?_
  refine RG.S0 (LT.plain rfl (rt_move rfl)) ?_
  refine RG.S0 (LT.plain rfl (rt_move rfl)) ?_
  refine RG.S0 (LT.plain rfl (rc_index (i := 0) rfl rfl hget)) ?_
  refine RG.S0 (LT.plain rfl (rc_load1 rfl rfl)) ?_
  refine RG.S1 (LT.plain rfl (ru_callM (b := 41) C3 ⟨⟨rfl, rfl⟩, rfl, trivial⟩ rfl)) ?_
  refine RG.S0 (LT.plain rfl (rt_assign rfl)) ?_
  refine RG.nil (by kernel_rfl) ?_
  refine WpD.sub (τ := ⟨[(4, .one (mag (pd (x / y) (digs x).length))), (8, .one (lb (x % y)))], []⟩) ?_ ?_
  ·
    refine Sub.pub 41 rfl rfl ?_ trivial rfl
    repeat (first | exact trivial | refine ⟨.inl ⟨⟨_, rfl, PLe.refl _⟩, trivial⟩, ?_⟩ | refine ⟨.inl ⟨⟨_, rfl, ⟨rfl, rfl, rfl, rfl⟩⟩, Option.some_ne_none _⟩, ?_⟩ | refine ⟨.inr ⟨_, _, _, _, rfl, rfl, hpl⟩, ?_⟩)
  repeat (first | refine WpD.seq ?_ | refine WpD.block ?_)
  refine WpD.reg ?_
  refine RG.S0 (LT.plain rfl (rt_move rfl)) ?_
  refine RG.S0 (LT.plain rfl (ru_call C4 ⟨rfl, trivial⟩)) ?_
  refine RG.S0 (LT.plain rfl (rt_move rfl)) ?_
  refine RG.S0 (LT.plain rfl (rt_conv_to rfl (fun w => run_convi w CInt.ok CInt.ok _ _) (vint e3))) ?_
  refine RG.S0 (LT.plain rfl (ru_call C5 ⟨rfl, trivial⟩)) ?_
  refine RG.S0 (LT.plain rfl (rt_assign rfl)) ?_
  refine RG.S0 (LT.plain rfl (rt_assign rfl)) ?_
  refine RG.nil (by kernel_rfl) ?_
  repeat (first | refine WpD.seq ?_ | refine WpD.block ?_)
  refine WpD.ret ?_
  exact ret2 rfl (.tmp rfl) (.tmp rfl) (PLe.refl _)
end
end Go.Proofs.YtnhbdldchoepfaaDoor

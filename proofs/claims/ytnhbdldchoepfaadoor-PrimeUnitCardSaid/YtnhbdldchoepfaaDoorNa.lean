/- Natural numbers of the program: trim, fromWord, word, compareNat. -/
import Derived.Test.YtnhbdldchoepfaaDoorMp
import Derived.Test.YtnhbdldchoepfaaDoorProg
import Derived.IntWalk
namespace Go.Proofs.YtnhbdldchoepfaaDoor
open Go.RowKit Limb
instance : CMix Tryd.prog := ⟨by kernel_rfl⟩
instance : CBool Tryd.prog 4 := ⟨Tryd.underlying4⟩
instance : CSlice Tryd.prog 22 68 := ⟨Tryd.underlying22⟩
instance : CElem Tryd.prog 22 68 1 := ⟨Tryd.underlying22, by kernel_rfl⟩
instance : CZero1 Tryd.prog 68 (.int .u32 0) 4 := ⟨by kernel_rfl, rfl⟩
instance : COne Tryd.prog 68 := ⟨⟨_, Tryd.underlying68, rfl, by kernel_rfl⟩⟩
instance : COne Tryd.prog 4 := ⟨⟨_, Tryd.underlying4, rfl, by kernel_rfl⟩⟩
instance : COne Tryd.prog 22 := ⟨⟨_, Tryd.underlying22, rfl, by kernel_rfl⟩⟩
instance : CInt Tryd.prog 68 .u32 := ⟨Tryd.underlying68⟩
instance : CInt Tryd.prog 61 .u64 := ⟨Tryd.underlying61⟩
instance : CInt Tryd.prog 2 .i64 := ⟨Tryd.underlying2⟩
instance : CInt Tryd.prog 3 .i64 := ⟨Tryd.underlying3⟩
instance : CBody Tryd.prog 32 := ⟨⟨_, Tryd.func32, rfl, by rfl⟩⟩
instance : CBody Tryd.prog 33 := ⟨⟨_, Tryd.func33, rfl, by rfl⟩⟩
instance : CBody Tryd.prog 54 := ⟨⟨_, Tryd.func54, rfl, by rfl⟩⟩
instance : CBody Tryd.prog 45 := ⟨⟨_, Tryd.func45, rfl, by rfl⟩⟩
instance : CBody Tryd.prog 43 := ⟨⟨_, Tryd.func43, rfl, by rfl⟩⟩
instance : CBody Tryd.prog 44 := ⟨⟨_, Tryd.func44, rfl, by rfl⟩⟩
instance : CBody Tryd.prog 31 := ⟨⟨_, Tryd.func31, rfl, by rfl⟩⟩
instance : CBody Tryd.prog 42 := ⟨⟨_, Tryd.func42, rfl, by rfl⟩⟩
instance : CBody Tryd.prog 60 := ⟨⟨_, Tryd.func60, rfl, by rfl⟩⟩
instance : CBody Tryd.prog 63 := ⟨⟨_, Tryd.func63, rfl, by rfl⟩⟩
instance : CBody Tryd.prog 62 := ⟨⟨_, Tryd.func62, rfl, by rfl⟩⟩
instance : CBody Tryd.prog 64 := ⟨⟨_, Tryd.func64, rfl, by rfl⟩⟩
theorem w64 {n : Int} (h1 : -9223372036854775808 ≤ n) (h2 : n ≤ 9223372036854775807) : IntKind.i64.wrap n = n := IntWalk.i64_in _ ⟨h1, h2⟩
theorem wu64 {n : Int} (h1 : 0 ≤ n) (h2 : n < 18446744073709551616) : IntKind.u64.wrap n = n := IntWalk.u64_in _ ⟨h1, by omega⟩
section
variable (En : Ev)
/-- The digits of a list of limbs: the list without zeros at its end. -/
theorem ntrim (l : List Nat) (hl : Lm l) (hlen : l.length ≤ 1099511627776) : Fn Tryd.prog En 32 [mag l] (mag (digs (val l))) := by
  refine fn_of_body Tryd.func32 rfl Tryd.ntmps32 rfl ?_
  intro w0 h0
  repeat (first | refine WpD.seq ?_ | refine WpD.block ?_)
  refine WpD.reg ?_
  refine RG.S0 (LT.plain rfl (rt_assign rfl)) ?_
  refine RG.nil (by kernel_rfl) ?_
  repeat (first | refine WpD.seq ?_ | refine WpD.block ?_)
  refine WpD.loop (α := {k : Nat // k ≤ l.length ∧ ∀ i x, k ≤ i → l[i]? = some x → x = 0}) (fun k => ⟨[(0, .one (mag (l.take k.1)))], []⟩) (fun k => k.1) ⟨l.length, Nat.le_refl _, fun i x hi hx => by rw [List.getElem?_eq_none hi] at hx; cases hx⟩ ?_ ?_
  · refine Sub.mk ⟨⟨_, rfl, ?_⟩, trivial, trivial⟩ trivial
    show PLe (mag l) (mag (l.take l.length))
    rw [List.take_length]
    exact PLe.refl _
  · rintro ⟨k, hk, hz⟩
    dsimp only
    have hlt : (l.take k).length = k := by simp; omega
    cases k with
    | zero =>
      have hb : decide (((l.take 0).length : Int) > 0) = false := by simp
      have hd : l.take 0 = digs (val l) := trim_digs hl (Nat.zero_le _) hz (fun x h => absurd h (Nat.lt_irrefl 0))
      repeat (first | refine WpD.seq ?_ | refine WpD.block ?_)
      refine WpD.reg ?_
      refine RG.S0 (LT.plain rfl (rt_move rfl)) ?_
      refine RG.S0 (LT.plain rfl (ru_len rfl CSlice.ok)) ?_
      refine RG.S0 (LT.plain rfl (rt_bin_to rfl rfl (fun w => run_gti w _ _ _ _ _ _) (vbool hb))) ?_
      refine RG.S0 (LT.plain rfl (rt_move rfl)) ?_
      first | refine RG.S0 (LT.run rfl rfl rfl (rt_move rfl)) ?_ | refine RG.S0 (LT.skip rfl rfl rfl) ?_
      first | refine RG.S0 (LT.run rfl rfl rfl (rt_move rfl)) ?_ | refine RG.S0 (LT.skip rfl rfl rfl) ?_
      first | refine RG.S0 (LT.run rfl rfl rfl (ru_len rfl CSlice.ok)) ?_ | refine RG.S0 (LT.skip rfl rfl rfl) ?_
      first | refine RG.S0 (LT.run rfl rfl rfl (rt_bin rfl rfl (fun w => run_subi w _ _ _ _ _ _))) ?_ | refine RG.S0 (LT.skip rfl rfl rfl) ?_
      first | refine RG.S0 (LT.run rfl rfl rfl (rc_index rfl rfl (by assumption))) ?_ | refine RG.S0 (LT.skip rfl rfl rfl) ?_
      first | refine RG.S0 (LT.run rfl rfl rfl (rc_load1 rfl rfl)) ?_ | refine RG.S0 (LT.skip rfl rfl rfl) ?_
      first | refine RG.S0 (LT.run rfl rfl rfl (rt_bin rfl rfl (fun w => run_eqi w _ _ _ _ _ _))) ?_ | refine RG.S0 (LT.skip rfl rfl rfl) ?_
      first | refine RG.S0 (LT.plain rfl (rt_pick_true rfl rfl)) ?_ | refine RG.S0 (LT.plain rfl (rt_pick_false rfl rfl)) ?_
      refine RG.nil (by kernel_rfl) ?_
      repeat (first | refine WpD.seq ?_ | refine WpD.block ?_)
      refine WpD.condF rfl ?_
      repeat (first | refine WpD.seq ?_ | refine WpD.block ?_)
      refine WpD.exit ?_
      repeat (first | refine WpD.seq ?_ | refine WpD.block ?_)
      refine WpD.reg ?_
      refine RG.S0 (LT.plain rfl (rt_move rfl)) ?_
      refine RG.S0 (LT.plain rfl (rt_assign rfl)) ?_
      refine RG.nil (by kernel_rfl) ?_
      repeat (first | refine WpD.seq ?_ | refine WpD.block ?_)
      refine WpD.ret ?_
      refine ret1 rfl (.tmp rfl) ?_
      rw [hd]; exact PLe.refl _
    | succ k =>
      obtain ⟨x, hx⟩ : ∃ x, l[k]? = some x := ⟨_, List.getElem?_eq_getElem (by omega)⟩
      have hx' : (l.take (k + 1))[k]? = some x := by rw [List.getElem?_take_of_lt (by omega)]; exact hx
      have hb : decide (((l.take (k + 1)).length : Int) > 0) = true := by rw [hlt]; exact decide_eq_true (by omega)
      have h7 : IntKind.i64.wrap (((l.take (k + 1)).length : Int) - 1) = (k : Int) := by rw [hlt, w64 (by omega) (by omega)]; omega
      by_cases hx0 : x = 0
      · have hb2 : ((x : Int) == 0) = true := by rw [hx0]; rfl
        repeat (first | refine WpD.seq ?_ | refine WpD.block ?_)
        refine WpD.reg ?_
        refine RG.S0 (LT.plain rfl (rt_move rfl)) ?_
        refine RG.S0 (LT.plain rfl (ru_len rfl CSlice.ok)) ?_
        refine RG.S0 (LT.plain rfl (rt_bin_to rfl rfl (fun w => run_gti w _ _ _ _ _ _) (vbool hb))) ?_
        refine RG.S0 (LT.plain rfl (rt_move rfl)) ?_
        first | refine RG.S0 (LT.run rfl rfl rfl (rt_move rfl)) ?_ | refine RG.S0 (LT.skip rfl rfl rfl) ?_
        first | refine RG.S0 (LT.run rfl rfl rfl (rt_move rfl)) ?_ | refine RG.S0 (LT.skip rfl rfl rfl) ?_
        first | refine RG.S0 (LT.run rfl rfl rfl (ru_len rfl CSlice.ok)) ?_ | refine RG.S0 (LT.skip rfl rfl rfl) ?_
        first | refine RG.S0 (LT.run rfl rfl rfl (rt_bin_to rfl rfl (fun w => run_subi w _ _ _ _ _ _) (vint h7))) ?_ | refine RG.S0 (LT.skip rfl rfl rfl) ?_
        first | refine RG.S0 (LT.run rfl rfl rfl (rc_index rfl rfl (by assumption))) ?_ | refine RG.S0 (LT.skip rfl rfl rfl) ?_
        first | refine RG.S0 (LT.run rfl rfl rfl (rc_load1 rfl rfl)) ?_ | refine RG.S0 (LT.skip rfl rfl rfl) ?_
        first | refine RG.S0 (LT.run rfl rfl rfl (rt_bin_to rfl rfl (fun w => run_eqi w _ _ _ _ _ _) (vbool hb2))) ?_ | refine RG.S0 (LT.skip rfl rfl rfl) ?_
        first | refine RG.S0 (LT.plain rfl (rt_pick_true rfl rfl)) ?_ | refine RG.S0 (LT.plain rfl (rt_pick_false rfl rfl)) ?_
        refine RG.nil (by kernel_rfl) ?_
        repeat (first | refine WpD.seq ?_ | refine WpD.block ?_)
        refine WpD.condT rfl ?_
        repeat (first | refine WpD.seq ?_ | refine WpD.block ?_)
        refine WpD.skip ?_
        repeat (first | refine WpD.seq ?_ | refine WpD.block ?_)
        refine WpD.reg ?_
        refine RG.S0 (LT.plain rfl (rt_move rfl)) ?_
        refine RG.S0 (LT.plain rfl (rt_move rfl)) ?_
        refine RG.S0 (LT.plain rfl (ru_len rfl CSlice.ok)) ?_
        refine RG.S0 (LT.plain rfl (rt_bin_to rfl rfl (fun w => run_subi w _ _ _ _ _ _) (vint h7))) ?_
        refine RG.S0 (LT.plain rfl (rc_sliceH rfl rfl (by omega))) ?_
        refine RG.S0 (LT.plain rfl (rt_assign rfl)) ?_
        refine RG.nil (by kernel_rfl) ?_
        refine ⟨⟨k, by omega, fun i y hi hy => ?_⟩, ?_, Nat.lt_succ_self k⟩
        · by_cases e : i = k
          · subst e; rw [hx] at hy; cases hy; exact hx0
          · exact hz i y (by omega) hy
        · refine Sub.mk ⟨⟨_, rfl, ?_⟩, trivial, trivial⟩ trivial
          show PLe (mag ((l.take (k + 1)).take k)) (mag (l.take k))
          rw [List.take_take, Nat.min_eq_left (by omega)]
          exact PLe.refl _
      · have hb2 : ((x : Int) == 0) = false := by rw [beq_eq_false_iff_ne]; omega
        have hd : l.take (k + 1) = digs (val l) := trim_digs hl hk hz (fun y _ hy => by rw [Nat.add_sub_cancel, hx] at hy; cases hy; exact hx0)
        repeat (first | refine WpD.seq ?_ | refine WpD.block ?_)
        refine WpD.reg ?_
        refine RG.S0 (LT.plain rfl (rt_move rfl)) ?_
        refine RG.S0 (LT.plain rfl (ru_len rfl CSlice.ok)) ?_
        refine RG.S0 (LT.plain rfl (rt_bin_to rfl rfl (fun w => run_gti w _ _ _ _ _ _) (vbool hb))) ?_
        refine RG.S0 (LT.plain rfl (rt_move rfl)) ?_
        first | refine RG.S0 (LT.run rfl rfl rfl (rt_move rfl)) ?_ | refine RG.S0 (LT.skip rfl rfl rfl) ?_
        first | refine RG.S0 (LT.run rfl rfl rfl (rt_move rfl)) ?_ | refine RG.S0 (LT.skip rfl rfl rfl) ?_
        first | refine RG.S0 (LT.run rfl rfl rfl (ru_len rfl CSlice.ok)) ?_ | refine RG.S0 (LT.skip rfl rfl rfl) ?_
        first | refine RG.S0 (LT.run rfl rfl rfl (rt_bin_to rfl rfl (fun w => run_subi w _ _ _ _ _ _) (vint h7))) ?_ | refine RG.S0 (LT.skip rfl rfl rfl) ?_
        first | refine RG.S0 (LT.run rfl rfl rfl (rc_index rfl rfl (by assumption))) ?_ | refine RG.S0 (LT.skip rfl rfl rfl) ?_
        first | refine RG.S0 (LT.run rfl rfl rfl (rc_load1 rfl rfl)) ?_ | refine RG.S0 (LT.skip rfl rfl rfl) ?_
        first | refine RG.S0 (LT.run rfl rfl rfl (rt_bin_to rfl rfl (fun w => run_eqi w _ _ _ _ _ _) (vbool hb2))) ?_ | refine RG.S0 (LT.skip rfl rfl rfl) ?_
        first | refine RG.S0 (LT.plain rfl (rt_pick_true rfl rfl)) ?_ | refine RG.S0 (LT.plain rfl (rt_pick_false rfl rfl)) ?_
        refine RG.nil (by kernel_rfl) ?_
        repeat (first | refine WpD.seq ?_ | refine WpD.block ?_)
        refine WpD.condF rfl ?_
        repeat (first | refine WpD.seq ?_ | refine WpD.block ?_)
        refine WpD.exit ?_
        repeat (first | refine WpD.seq ?_ | refine WpD.block ?_)
        refine WpD.reg ?_
        refine RG.S0 (LT.plain rfl (rt_move rfl)) ?_
        refine RG.S0 (LT.plain rfl (rt_assign rfl)) ?_
        refine RG.nil (by kernel_rfl) ?_
        repeat (first | refine WpD.seq ?_ | refine WpD.block ?_)
        refine WpD.ret ?_
        refine ret1 rfl (.tmp rfl) ?_
        rw [hd]; exact PLe.refl _
/-- A word of 64 bits. -/
theorem val_two' (u : Nat) : val [u % B, u / B] = u := by simp only [val, Nat.mul_zero, Nat.add_zero]; exact Nat.mod_add_div u B
theorem lm_two' {u : Nat} (hu : u < 18446744073709551616) : Lm [u % B, u / B] := by
  have h1 : u % B < B := Nat.mod_lt _ B_pos
  have h2 : u / B < B := by rw [B_def]; omega
  exact Lm.cons h1 (Lm.cons h2 Lm.nil)
theorem nfromWord (u : Nat) (hu : u < 18446744073709551616) : Fn Tryd.prog En 33 [ex (.int .u64 (u : Int))] (mag (digs u)) := by
  have C1 := ntrim En [u % B, u / B] (lm_two' hu) (by simp)
  rw [val_two'] at C1
  have h1 : IntKind.u32.wrap (u : Int) = ((u % B : Nat) : Int) := by rw [IntKind.wrap_u32, B_def]; omega
  have h3 : (u : Int).fdiv (2 ^ (min (32 : Int).toNat IntKind.u64.bits)) = ((u / B : Nat) : Int) := by
    show (u : Int).fdiv (2 ^ 32) = _
    rw [Int.fdiv_eq_ediv_of_nonneg _ (by decide), B_def]; norm_cast
  have h4 : IntKind.u32.wrap ((u / B : Nat) : Int) = ((u / B : Nat) : Int) := by rw [IntKind.wrap_u32, B_def]; omega
  have hlm := lm_two' hu
  refine fn_of_body Tryd.func33 rfl Tryd.ntmps33 rfl ?_
  intro w0 h0
  repeat (first | refine WpD.seq ?_ | refine WpD.block ?_)
  refine WpD.reg ?_
  refine RG.S0 (LT.plain rfl (rt_assign rfl)) ?_
  refine RG.nil (by kernel_rfl) ?_
  repeat (first | refine WpD.seq ?_ | refine WpD.block ?_)
  refine WpD.reg ?_
  refine RG.S0 (LT.plain rfl (rt_move rfl)) ?_
  refine RG.S0 (LT.plain rfl (rt_conv_to rfl (fun w => run_convi w CInt.ok CInt.ok _ _) (vint h1))) ?_
  refine RG.S0 (LT.plain rfl (rt_move rfl)) ?_
  refine RG.S0 (LT.plain rfl (rt_bin_to rfl rfl (fun w => run_shri w _ _ _ _ _ _ _ (by first | decide | omega | assumption)) (vint h3))) ?_
  refine RG.S0 (LT.plain rfl (rt_conv_to rfl (fun w => run_convi w CInt.ok CInt.ok _ _) (vint h4))) ?_
  refine RG.S0 (LT.plain rfl (rc_buildS (l := [u % B, u / B]) ⟨rfl, rfl, rfl, rfl, trivial⟩ rfl rfl rfl hlm)) ?_
  refine RG.S0 (LT.plain rfl (ru_call C1 ⟨rfl, trivial⟩)) ?_
  refine RG.S0 (LT.plain rfl (rt_assign rfl)) ?_
  refine RG.nil (by kernel_rfl) ?_
  repeat (first | refine WpD.seq ?_ | refine WpD.block ?_)
  refine WpD.ret ?_
  exact ret1 rfl (.tmp rfl) (PLe.refl _)
end
end Go.Proofs.YtnhbdldchoepfaaDoor

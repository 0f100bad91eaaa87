/- Natural numbers of the program: word, compareNat, addNat, subNat. -/
import Derived.Test.YtnhbdldchoepfaaDoorNa
import Derived.Test.YtnhbdldchoepfaaDoorLimb2
namespace Go.Proofs.YtnhbdldchoepfaaDoor
open Go.RowKit Limb
theorem or_add {a b j : Nat} (ha : a < 2 ^ j) (hb : 2 ^ j * b < 18446744073709551616) (hj : j ≤ 64) : IntKind.u64.wrap ((BitVec.ofInt IntKind.u64.bits (a : Int) ||| BitVec.ofInt IntKind.u64.bits ((2 ^ j * b : Nat) : Int)).toNat : Int) = ((a + 2 ^ j * b : Nat) : Int) := by
  have hj' : 2 ^ j ≤ 2 ^ 64 := Nat.pow_le_pow_right (by decide) hj
  have e64 : (2 : Nat) ^ 64 = 18446744073709551616 := by decide
  have h1 : (BitVec.ofInt 64 (a : Int)).toNat = a := by
    rw [BitVec.ofInt_natCast, BitVec.toNat_ofNat]; exact Nat.mod_eq_of_lt (by omega)
  have h2 : (BitVec.ofInt 64 ((2 ^ j * b : Nat) : Int)).toNat = 2 ^ j * b := by
    rw [BitVec.ofInt_natCast, BitVec.toNat_ofNat]; exact Nat.mod_eq_of_lt (by omega)
  have h3 : a ||| 2 ^ j * b = a + 2 ^ j * b := by
    rw [Nat.or_comm, ← Nat.two_pow_add_eq_or_of_lt ha, Nat.add_comm]
  have hlt : a + 2 ^ j * b < 18446744073709551616 := by
    rw [← h3, ← e64]; exact Nat.or_lt_two_pow (by omega) (by omega)
  show IntKind.u64.wrap ((BitVec.ofInt 64 (a : Int) ||| BitVec.ofInt 64 ((2 ^ j * b : Nat) : Int)).toNat : Int) = _
  rw [BitVec.toNat_or, h1, h2, h3]
  exact wu64 (by omega) (by omega)
theorem setL (A Z : List Nat) (y x : Nat) : ((A ++ y :: Z).map lb).set A.length (lb x) = ((A ++ [x]) ++ Z).map lb := by
  simp
theorem setL0 {A : List Nat} {m i x : Nat} (hA : A.length = i) : ((A ++ List.replicate (m + 1) 0).map lb).set i (lb x) = ((A ++ [x]) ++ List.replicate m 0).map lb := by
  subst hA; rw [List.replicate_succ]; exact setL A _ 0 x
theorem zerosL (m : Nat) : List.replicate m (ex (.int .u32 0)) = (List.replicate m 0).map lb := by rw [List.map_replicate]; rfl
section
variable (En : Ev)
theorem nword (l : List Nat) (hl2 : Lm l) (hl : l.length ≤ 2) : Fn Tryd.prog En 54 [mag l] (ex (.int .u64 ((val l : Nat) : Int))) := by
  refine fn_of_body Tryd.func54 rfl Tryd.ntmps54 rfl ?_
  intro w0 h0
  repeat (first | refine WpD.seq ?_ | refine WpD.block ?_)
  refine WpD.reg ?_
  refine RG.S0 (LT.plain rfl (rt_assign rfl)) ?_
  refine RG.nil (by kernel_rfl) ?_
  repeat (first | refine WpD.seq ?_ | refine WpD.block ?_)
  refine WpD.reg ?_
  refine RG.S0 (LT.plain rfl (rt_assign rfl)) ?_
  refine RG.nil (by kernel_rfl) ?_
  repeat (first | refine WpD.seq ?_ | refine WpD.block ?_)
  refine WpD.reg ?_
  refine RG.S0 (LT.plain rfl (rt_move rfl)) ?_
  refine RG.S0 (LT.plain rfl (ru_len rfl CSlice.ok)) ?_
  refine RG.S0 (LT.plain rfl (rt_move rfl)) ?_
  refine RG.nil (by kernel_rfl) ?_
  repeat (first | refine WpD.seq ?_ | refine WpD.block ?_)
  refine WpD.loop (α := {k : Nat // k ≤ l.length}) (fun k => ⟨[(3, .one (ex (.int .u64 ((val (l.take k.1) : Nat) : Int)))), (6, .one (mag l)), (7, .one (ex (.int .i64 (l.length : Int)))), (8, .one (ex (.int .i64 (k.1 : Int))))], []⟩) (fun k => l.length - k.1) ⟨0, Nat.zero_le _⟩ ?_ ?_
  ·
    refine Sub.mk ?_ ?_
    · repeat (first | exact trivial | refine ⟨⟨_, rfl, ⟨rfl, rfl⟩⟩, Option.some_ne_none _, ?_⟩ | refine ⟨⟨_, rfl, ⟨rfl, rfl, rfl, rfl⟩⟩, Option.some_ne_none _, ?_⟩ | refine ⟨⟨_, rfl, PLe.refl _⟩, trivial, ?_⟩)
    · repeat (first | exact trivial | refine ⟨⟨_, rfl, PsLe.refl _⟩, ?_⟩)
  · rintro ⟨k, hk⟩
    dsimp only
    by_cases hlt : k < l.length
    · obtain ⟨x, hx⟩ : ∃ x, l[k]? = some x := ⟨_, List.getElem?_eq_getElem hlt⟩
      have hxB := hl2.get hx
      have hb : decide ((k : Int) < (l.length : Int)) = true := decide_eq_true (by omega)
      have h2 : IntKind.u64.wrap (x : Int) = (x : Int) := wu64 (by omega) (by rw [B_def] at hxB; omega)
      have h4 : IntKind.i64.wrap (32 * (k : Int)) = ((32 * k : Nat) : Int) := by rw [w64 (by omega) (by omega)]; omega
      have hv := val_take_succ l k
      rw [hx, Option.getD_some] at hv
      have hlow := val_lt (hl2.take k)
      rw [List.length_take, Nat.min_eq_left (by omega)] at hlow
      have eB : B ^ k = 2 ^ (32 * k) := by rw [Nat.pow_mul]; rfl
      rw [eB] at hlow hv
      have hk1 : k = 0 ∨ k = 1 := by omega
      have hbig : 2 ^ (32 * k) * x < 18446744073709551616 := by rcases hk1 with rfl | rfl <;> rw [B_def] at hxB <;> simp <;> omega
      have h5 : IntKind.u64.wrap ((x : Int) * 2 ^ (min (((32 * k : Nat) : Int)).toNat IntKind.u64.bits)) = ((2 ^ (32 * k) * x : Nat) : Int) := by
        rw [Int.toNat_natCast, show min (32 * k) IntKind.u64.bits = 32 * k from Nat.min_eq_left (by show 32 * k ≤ 64; omega)]
        rw [show (x : Int) * 2 ^ (32 * k) = ((2 ^ (32 * k) * x : Nat) : Int) by rw [Int.natCast_mul, Int.mul_comm]; norm_cast]
        exact wu64 (by omega) (by omega)
      have h6 := or_add hlow hbig (by omega)
      rw [← hv] at h6
      have h8 : IntKind.i64.wrap ((k : Int) + 1) = ((k + 1 : Nat) : Int) := by rw [w64 (by omega) (by omega)]; omega
      repeat (first | refine WpD.seq ?_ | refine WpD.block ?_)
      refine WpD.reg ?_
      refine RG.S0 (LT.plain rfl (rt_bin_to rfl rfl (fun w => run_lti w _ _ _ _ _ _) (vbool hb))) ?_
      refine RG.nil (by kernel_rfl) ?_
      repeat (first | refine WpD.seq ?_ | refine WpD.block ?_)
      refine WpD.condT rfl ?_
      repeat (first | refine WpD.seq ?_ | refine WpD.block ?_)
      refine WpD.skip ?_
      repeat (first | refine WpD.seq ?_ | refine WpD.block ?_)
      refine WpD.reg ?_
      refine RG.S0 (LT.plain rfl (rt_move rfl)) ?_
      refine RG.S0 (LT.plain rfl (rc_index rfl rfl (by assumption))) ?_
      refine RG.S0 (LT.plain rfl (rc_load1 rfl rfl)) ?_
      refine RG.S0 (LT.plain rfl (rt_assign rfl)) ?_
      refine RG.S0 (LT.plain rfl (rt_assign rfl)) ?_
      refine RG.nil (by kernel_rfl) ?_
      repeat (first | refine WpD.seq ?_ | refine WpD.block ?_)
      refine WpD.reg ?_
      refine RG.S0 (LT.plain rfl (rt_move rfl)) ?_
      refine RG.S0 (LT.plain rfl (rt_move rfl)) ?_
      refine RG.S0 (LT.plain rfl (rt_conv_to rfl (fun w => run_convi w CInt.ok CInt.ok _ _) (vint h2))) ?_
      refine RG.S0 (LT.plain rfl (rt_move rfl)) ?_
      refine RG.S0 (LT.plain rfl (rt_bin_to rfl rfl (fun w => run_muli w _ _ _ _ _ _) (vint h4))) ?_
      refine RG.S0 (LT.plain rfl (rt_bin_to rfl rfl (fun w => run_shli w _ _ _ _ _ _ _ (by first | decide | omega | assumption)) (vint h5))) ?_
      refine RG.S0 (LT.plain rfl (rt_bin_to rfl rfl (fun w => run_ori w _ _ _ _ _ _) (vint h6))) ?_
      refine RG.S0 (LT.plain rfl (rt_assign rfl)) ?_
      refine RG.nil (by kernel_rfl) ?_
      repeat (first | refine WpD.seq ?_ | refine WpD.block ?_)
      refine WpD.reg ?_
      refine RG.S0 (LT.plain rfl (rt_bin_to rfl rfl (fun w => run_addi w _ _ _ _ _ _) (vint h8))) ?_
      refine RG.S0 (LT.plain rfl (rt_move rfl)) ?_
      refine RG.nil (by kernel_rfl) ?_
      refine ⟨⟨k + 1, hlt⟩, ?_, by simp only; omega⟩
      refine Sub.mk ?_ ?_
      · repeat (first | exact trivial | refine ⟨⟨_, rfl, ⟨rfl, rfl⟩⟩, Option.some_ne_none _, ?_⟩ | refine ⟨⟨_, rfl, ⟨rfl, rfl, rfl, rfl⟩⟩, Option.some_ne_none _, ?_⟩ | refine ⟨⟨_, rfl, PLe.refl _⟩, trivial, ?_⟩)
      · repeat (first | exact trivial | refine ⟨⟨_, rfl, PsLe.refl _⟩, ?_⟩)
    · have hb : decide ((k : Int) < (l.length : Int)) = false := decide_eq_false (by omega)
      have hkl : k = l.length := by omega
      subst hkl
      repeat (first | refine WpD.seq ?_ | refine WpD.block ?_)
      refine WpD.reg ?_
      refine RG.S0 (LT.plain rfl (rt_bin_to rfl rfl (fun w => run_lti w _ _ _ _ _ _) (vbool hb))) ?_
      refine RG.nil (by kernel_rfl) ?_
      repeat (first | refine WpD.seq ?_ | refine WpD.block ?_)
      refine WpD.condF rfl ?_
      repeat (first | refine WpD.seq ?_ | refine WpD.block ?_)
      refine WpD.exit ?_
      repeat (first | refine WpD.seq ?_ | refine WpD.block ?_)
      refine WpD.reg ?_
      refine RG.S0 (LT.plain rfl (rt_move rfl)) ?_
      refine RG.S0 (LT.plain rfl (rt_assign rfl)) ?_
      refine RG.nil (by kernel_rfl) ?_
      repeat (first | refine WpD.seq ?_ | refine WpD.block ?_)
      refine WpD.ret ?_
      refine ret1 rfl (.tmp rfl) ?_
      rw [List.take_length]; exact PLe.refl _
theorem ncompare (a b : List Nat) (ha : a.length ≤ 1099511627776) (hla : Lm a) (hlb : Lm b) : Fn Tryd.prog En 45 [mag a, mag b] (ex (.int .i64 (cmpL a b))) := by
  by_cases h1 : a.length < b.length
  · have e1 : cmpL a b = -1 := by unfold cmpL; rw [if_pos h1]
    have b1 : decide ((a.length : Int) < (b.length : Int)) = true := decide_eq_true (by omega)
    rw [e1]
    refine fn_of_body Tryd.func45 rfl Tryd.ntmps45 rfl ?_
    intro w0 h0
    repeat (first | refine WpD.seq ?_ | refine WpD.block ?_)
    refine WpD.reg ?_
    refine RG.S0 (LT.plain rfl (rt_assign rfl)) ?_
    refine RG.nil (by kernel_rfl) ?_
    repeat (first | refine WpD.seq ?_ | refine WpD.block ?_)
    refine WpD.reg ?_
    refine RG.S0 (LT.plain rfl (rt_move rfl)) ?_
    refine RG.S0 (LT.plain rfl (ru_len rfl CSlice.ok)) ?_
    refine RG.S0 (LT.plain rfl (rt_move rfl)) ?_
    refine RG.S0 (LT.plain rfl (ru_len rfl CSlice.ok)) ?_
    refine RG.S0 (LT.plain rfl (rt_bin_to rfl rfl (fun w => run_lti w _ _ _ _ _ _) (vbool b1))) ?_
    refine RG.S0 (LT.plain rfl (rt_assign rfl)) ?_
    refine RG.nil (by kernel_rfl) ?_
    repeat (first | refine WpD.seq ?_ | refine WpD.block ?_)
    refine WpD.condT rfl ?_
    repeat (first | refine WpD.seq ?_ | refine WpD.block ?_)
    refine WpD.reg ?_
    refine RG.S0 (LT.plain rfl (rt_assign rfl)) ?_
    refine RG.nil (by kernel_rfl) ?_
    repeat (first | refine WpD.seq ?_ | refine WpD.block ?_)
    refine WpD.ret ?_
    exact ret1 rfl (.tmp rfl) (PLe.refl _)
  · have b1 : decide ((a.length : Int) < (b.length : Int)) = false := decide_eq_false (by omega)
    by_cases h2 : b.length < a.length
    · have e1 : cmpL a b = 1 := by unfold cmpL; rw [if_neg h1, if_pos h2]
      have b2 : decide ((a.length : Int) > (b.length : Int)) = true := decide_eq_true (by omega)
      rw [e1]
      refine fn_of_body Tryd.func45 rfl Tryd.ntmps45 rfl ?_
      intro w0 h0
      repeat (first | refine WpD.seq ?_ | refine WpD.block ?_)
      refine WpD.reg ?_
      refine RG.S0 (LT.plain rfl (rt_assign rfl)) ?_
      refine RG.nil (by kernel_rfl) ?_
      repeat (first | refine WpD.seq ?_ | refine WpD.block ?_)
      refine WpD.reg ?_
      refine RG.S0 (LT.plain rfl (rt_move rfl)) ?_
      refine RG.S0 (LT.plain rfl (ru_len rfl CSlice.ok)) ?_
      refine RG.S0 (LT.plain rfl (rt_move rfl)) ?_
      refine RG.S0 (LT.plain rfl (ru_len rfl CSlice.ok)) ?_
      refine RG.S0 (LT.plain rfl (rt_bin_to rfl rfl (fun w => run_lti w _ _ _ _ _ _) (vbool b1))) ?_
      refine RG.S0 (LT.plain rfl (rt_assign rfl)) ?_
      refine RG.nil (by kernel_rfl) ?_
      repeat (first | refine WpD.seq ?_ | refine WpD.block ?_)
      refine WpD.condF rfl ?_
      repeat (first | refine WpD.seq ?_ | refine WpD.block ?_)
      refine WpD.reg ?_
      refine RG.S0 (LT.plain rfl (rt_move rfl)) ?_
      refine RG.S0 (LT.plain rfl (ru_len rfl CSlice.ok)) ?_
      refine RG.S0 (LT.plain rfl (rt_move rfl)) ?_
      refine RG.S0 (LT.plain rfl (ru_len rfl CSlice.ok)) ?_
      refine RG.S0 (LT.plain rfl (rt_bin_to rfl rfl (fun w => run_gti w _ _ _ _ _ _) (vbool b2))) ?_
      refine RG.S0 (LT.plain rfl (rt_assign rfl)) ?_
      refine RG.nil (by kernel_rfl) ?_
      repeat (first | refine WpD.seq ?_ | refine WpD.block ?_)
      refine WpD.condT rfl ?_
      repeat (first | refine WpD.seq ?_ | refine WpD.block ?_)
      refine WpD.reg ?_
      refine RG.S0 (LT.plain rfl (rt_assign rfl)) ?_
      refine RG.nil (by kernel_rfl) ?_
      repeat (first | refine WpD.seq ?_ | refine WpD.block ?_)
      refine WpD.ret ?_
      exact ret1 rfl (.tmp rfl) (PLe.refl _)
    · have b2 : decide ((a.length : Int) > (b.length : Int)) = false := decide_eq_false (by omega)
      have hlen : a.length = b.length := by omega
      have hw : IntKind.i64.wrap ((a.length : Int) - 1) = (a.length : Int) - 1 := w64 (by omega) (by omega)
      have cE : cmpL a b = if val a < val b then -1 else if val b < val a then 1 else 0 := by unfold cmpL; rw [if_neg h1, if_neg h2]
      refine fn_of_body Tryd.func45 rfl Tryd.ntmps45 rfl ?_
      intro w0 h0
      repeat (first | refine WpD.seq ?_ | refine WpD.block ?_)
      refine WpD.reg ?_
      refine RG.S0 (LT.plain rfl (rt_assign rfl)) ?_
      refine RG.nil (by kernel_rfl) ?_
      repeat (first | refine WpD.seq ?_ | refine WpD.block ?_)
      refine WpD.reg ?_
      refine RG.S0 (LT.plain rfl (rt_move rfl)) ?_
      refine RG.S0 (LT.plain rfl (ru_len rfl CSlice.ok)) ?_
      refine RG.S0 (LT.plain rfl (rt_move rfl)) ?_
      refine RG.S0 (LT.plain rfl (ru_len rfl CSlice.ok)) ?_
      refine RG.S0 (LT.plain rfl (rt_bin_to rfl rfl (fun w => run_lti w _ _ _ _ _ _) (vbool b1))) ?_
      refine RG.S0 (LT.plain rfl (rt_assign rfl)) ?_
      refine RG.nil (by kernel_rfl) ?_
      repeat (first | refine WpD.seq ?_ | refine WpD.block ?_)
      refine WpD.condF rfl ?_
      repeat (first | refine WpD.seq ?_ | refine WpD.block ?_)
      refine WpD.reg ?_
      refine RG.S0 (LT.plain rfl (rt_move rfl)) ?_
      refine RG.S0 (LT.plain rfl (ru_len rfl CSlice.ok)) ?_
      refine RG.S0 (LT.plain rfl (rt_move rfl)) ?_
      refine RG.S0 (LT.plain rfl (ru_len rfl CSlice.ok)) ?_
      refine RG.S0 (LT.plain rfl (rt_bin_to rfl rfl (fun w => run_gti w _ _ _ _ _ _) (vbool b2))) ?_
      refine RG.S0 (LT.plain rfl (rt_assign rfl)) ?_
      refine RG.nil (by kernel_rfl) ?_
      repeat (first | refine WpD.seq ?_ | refine WpD.block ?_)
      refine WpD.condF rfl ?_
      repeat (first | refine WpD.seq ?_ | refine WpD.block ?_)
      refine WpD.skip ?_
      repeat (first | refine WpD.seq ?_ | refine WpD.block ?_)
      refine WpD.reg ?_
      refine RG.S0 (LT.plain rfl (rt_move rfl)) ?_
      refine RG.S0 (LT.plain rfl (ru_len rfl CSlice.ok)) ?_
      refine RG.S0 (LT.plain rfl (rt_bin_to rfl rfl (fun w => run_subi w _ _ _ _ _ _) (vint hw))) ?_
      refine RG.S0 (LT.plain rfl (rt_assign rfl)) ?_
      refine RG.nil (by kernel_rfl) ?_
      repeat (first | refine WpD.seq ?_ | refine WpD.block ?_)
      refine WpD.loop (α := {k : Nat // k ≤ a.length ∧ a.drop k = b.drop k}) (fun k => ⟨[(0, .one (mag a)), (1, .one (mag b)), (5, .one (ex (.int .i64 ((k.1 : Int) - 1))))], []⟩) (fun k => k.1) ⟨a.length, Nat.le_refl _, by rw [List.drop_length, hlen, List.drop_length]⟩ ?_ ?_
      ·
        refine Sub.mk ?_ ?_
        · repeat (first | exact trivial | refine ⟨⟨_, rfl, ⟨rfl, rfl⟩⟩, Option.some_ne_none _, ?_⟩ | refine ⟨⟨_, rfl, ⟨rfl, rfl, rfl, rfl⟩⟩, Option.some_ne_none _, ?_⟩ | refine ⟨⟨_, rfl, PLe.refl _⟩, trivial, ?_⟩)
        · repeat (first | exact trivial | refine ⟨⟨_, rfl, PsLe.refl _⟩, ?_⟩)
      · rintro ⟨k, hk, hd⟩
        dsimp only
        cases k with
        | zero =>
          have hab : a = b := by simpa using hd
          have b3 : decide ((((0 : Nat) : Int) - 1) ≥ 0) = false := by decide
          have e1 : cmpL a b = 0 := by rw [hab]; exact cmpL_same b
          rw [e1]
          repeat (first | refine WpD.seq ?_ | refine WpD.block ?_)
          refine WpD.reg ?_
          refine RG.S0 (LT.plain rfl (rt_move rfl)) ?_
          refine RG.S0 (LT.plain rfl (rt_bin_to rfl rfl (fun w => run_gei w _ _ _ _ _ _) (vbool b3))) ?_
          refine RG.nil (by kernel_rfl) ?_
          repeat (first | refine WpD.seq ?_ | refine WpD.block ?_)
          refine WpD.condF rfl ?_
          repeat (first | refine WpD.seq ?_ | refine WpD.block ?_)
          refine WpD.exit ?_
          repeat (first | refine WpD.seq ?_ | refine WpD.block ?_)
          refine WpD.reg ?_
          refine RG.S0 (LT.plain rfl (rt_assign rfl)) ?_
          refine RG.nil (by kernel_rfl) ?_
          repeat (first | refine WpD.seq ?_ | refine WpD.block ?_)
          refine WpD.ret ?_
          exact ret1 rfl (.tmp rfl) (PLe.refl _)
        | succ j =>
          obtain ⟨x, hx⟩ : ∃ x, a[j]? = some x := ⟨_, List.getElem?_eq_getElem (by omega)⟩
          obtain ⟨y, hy⟩ : ∃ y, b[j]? = some y := ⟨_, List.getElem?_eq_getElem (by omega)⟩
          have b3 : decide ((j : Int) ≥ 0) = true := decide_eq_true (by omega)
          rw [show (((j + 1 : Nat) : Int) - 1) = (j : Int) by omega]
          repeat (first | refine WpD.seq ?_ | refine WpD.block ?_)
          refine WpD.reg ?_
          refine RG.S0 (LT.plain rfl (rt_move rfl)) ?_
          refine RG.S0 (LT.plain rfl (rt_bin_to rfl rfl (fun w => run_gei w _ _ _ _ _ _) (vbool b3))) ?_
          refine RG.nil (by kernel_rfl) ?_
          repeat (first | refine WpD.seq ?_ | refine WpD.block ?_)
          refine WpD.condT rfl ?_
          repeat (first | refine WpD.seq ?_ | refine WpD.block ?_)
          refine WpD.skip ?_
          by_cases hxy : x < y
          · have b4 : decide ((x : Int) < (y : Int)) = true := decide_eq_true (by omega)
            have e1 : cmpL a b = -1 := by rw [cE, if_pos (val_lt_of_top hlen hla hx hy hxy hd)]
            rw [e1]
            repeat (first | refine WpD.seq ?_ | refine WpD.block ?_)
            refine WpD.reg ?_
            refine RG.S0 (LT.plain rfl (rt_move rfl)) ?_
            refine RG.S0 (LT.plain rfl (rt_move rfl)) ?_
            refine RG.S0 (LT.plain rfl (rc_index rfl rfl (by assumption))) ?_
            refine RG.S0 (LT.plain rfl (rc_load1 rfl rfl)) ?_
            refine RG.S0 (LT.plain rfl (rt_move rfl)) ?_
            refine RG.S0 (LT.plain rfl (rt_move rfl)) ?_
            refine RG.S0 (LT.plain rfl (rc_index rfl rfl (by assumption))) ?_
            refine RG.S0 (LT.plain rfl (rc_load1 rfl rfl)) ?_
            refine RG.S0 (LT.plain rfl (rt_bin_to rfl rfl (fun w => run_lti w _ _ _ _ _ _) (vbool b4))) ?_
            refine RG.S0 (LT.plain rfl (rt_assign rfl)) ?_
            refine RG.nil (by kernel_rfl) ?_
            repeat (first | refine WpD.seq ?_ | refine WpD.block ?_)
            refine WpD.condT rfl ?_
            repeat (first | refine WpD.seq ?_ | refine WpD.block ?_)
            refine WpD.reg ?_
            refine RG.S0 (LT.plain rfl (rt_assign rfl)) ?_
            refine RG.nil (by kernel_rfl) ?_
            repeat (first | refine WpD.seq ?_ | refine WpD.block ?_)
            refine WpD.ret ?_
            exact ret1 rfl (.tmp rfl) (PLe.refl _)
          · have b4 : decide ((x : Int) < (y : Int)) = false := decide_eq_false (by omega)
            by_cases hyx : y < x
            · have b5 : decide ((x : Int) > (y : Int)) = true := decide_eq_true (by omega)
              have hlt := val_lt_of_top hlen.symm hlb hy hx hyx hd.symm
              have e1 : cmpL a b = 1 := by rw [cE, if_neg (by omega), if_pos hlt]
              rw [e1]
              repeat (first | refine WpD.seq ?_ | refine WpD.block ?_)
              refine WpD.reg ?_
              refine RG.S0 (LT.plain rfl (rt_move rfl)) ?_
              refine RG.S0 (LT.plain rfl (rt_move rfl)) ?_
              refine RG.S0 (LT.plain rfl (rc_index rfl rfl (by assumption))) ?_
              refine RG.S0 (LT.plain rfl (rc_load1 rfl rfl)) ?_
              refine RG.S0 (LT.plain rfl (rt_move rfl)) ?_
              refine RG.S0 (LT.plain rfl (rt_move rfl)) ?_
              refine RG.S0 (LT.plain rfl (rc_index rfl rfl (by assumption))) ?_
              refine RG.S0 (LT.plain rfl (rc_load1 rfl rfl)) ?_
              refine RG.S0 (LT.plain rfl (rt_bin_to rfl rfl (fun w => run_lti w _ _ _ _ _ _) (vbool b4))) ?_
              refine RG.S0 (LT.plain rfl (rt_assign rfl)) ?_
              refine RG.nil (by kernel_rfl) ?_
              repeat (first | refine WpD.seq ?_ | refine WpD.block ?_)
              refine WpD.condF rfl ?_
              repeat (first | refine WpD.seq ?_ | refine WpD.block ?_)
              refine WpD.reg ?_
              refine RG.S0 (LT.plain rfl (rt_move rfl)) ?_
              refine RG.S0 (LT.plain rfl (rt_move rfl)) ?_
              refine RG.S0 (LT.plain rfl (rc_index rfl rfl (by assumption))) ?_
              refine RG.S0 (LT.plain rfl (rc_load1 rfl rfl)) ?_
              refine RG.S0 (LT.plain rfl (rt_move rfl)) ?_
              refine RG.S0 (LT.plain rfl (rt_move rfl)) ?_
              refine RG.S0 (LT.plain rfl (rc_index rfl rfl (by assumption))) ?_
              refine RG.S0 (LT.plain rfl (rc_load1 rfl rfl)) ?_
              refine RG.S0 (LT.plain rfl (rt_bin_to rfl rfl (fun w => run_gti w _ _ _ _ _ _) (vbool b5))) ?_
              refine RG.S0 (LT.plain rfl (rt_assign rfl)) ?_
              refine RG.nil (by kernel_rfl) ?_
              repeat (first | refine WpD.seq ?_ | refine WpD.block ?_)
              refine WpD.condT rfl ?_
              repeat (first | refine WpD.seq ?_ | refine WpD.block ?_)
              refine WpD.reg ?_
              refine RG.S0 (LT.plain rfl (rt_assign rfl)) ?_
              refine RG.nil (by kernel_rfl) ?_
              repeat (first | refine WpD.seq ?_ | refine WpD.block ?_)
              refine WpD.ret ?_
              exact ret1 rfl (.tmp rfl) (PLe.refl _)
            · have b5 : decide ((x : Int) > (y : Int)) = false := decide_eq_false (by omega)
              have h6 : IntKind.i64.wrap ((j : Int) - 1) = (j : Int) - 1 := w64 (by omega) (by omega)
              repeat (first | refine WpD.seq ?_ | refine WpD.block ?_)
              refine WpD.reg ?_
              refine RG.S0 (LT.plain rfl (rt_move rfl)) ?_
              refine RG.S0 (LT.plain rfl (rt_move rfl)) ?_
              refine RG.S0 (LT.plain rfl (rc_index rfl rfl (by assumption))) ?_
              refine RG.S0 (LT.plain rfl (rc_load1 rfl rfl)) ?_
              refine RG.S0 (LT.plain rfl (rt_move rfl)) ?_
              refine RG.S0 (LT.plain rfl (rt_move rfl)) ?_
              refine RG.S0 (LT.plain rfl (rc_index rfl rfl (by assumption))) ?_
              refine RG.S0 (LT.plain rfl (rc_load1 rfl rfl)) ?_
              refine RG.S0 (LT.plain rfl (rt_bin_to rfl rfl (fun w => run_lti w _ _ _ _ _ _) (vbool b4))) ?_
              refine RG.S0 (LT.plain rfl (rt_assign rfl)) ?_
              refine RG.nil (by kernel_rfl) ?_
              repeat (first | refine WpD.seq ?_ | refine WpD.block ?_)
              refine WpD.condF rfl ?_
              repeat (first | refine WpD.seq ?_ | refine WpD.block ?_)
              refine WpD.reg ?_
              refine RG.S0 (LT.plain rfl (rt_move rfl)) ?_
              refine RG.S0 (LT.plain rfl (rt_move rfl)) ?_
              refine RG.S0 (LT.plain rfl (rc_index rfl rfl (by assumption))) ?_
              refine RG.S0 (LT.plain rfl (rc_load1 rfl rfl)) ?_
              refine RG.S0 (LT.plain rfl (rt_move rfl)) ?_
              refine RG.S0 (LT.plain rfl (rt_move rfl)) ?_
              refine RG.S0 (LT.plain rfl (rc_index rfl rfl (by assumption))) ?_
              refine RG.S0 (LT.plain rfl (rc_load1 rfl rfl)) ?_
              refine RG.S0 (LT.plain rfl (rt_bin_to rfl rfl (fun w => run_gti w _ _ _ _ _ _) (vbool b5))) ?_
              refine RG.S0 (LT.plain rfl (rt_assign rfl)) ?_
              refine RG.nil (by kernel_rfl) ?_
              repeat (first | refine WpD.seq ?_ | refine WpD.block ?_)
              refine WpD.condF rfl ?_
              repeat (first | refine WpD.seq ?_ | refine WpD.block ?_)
              refine WpD.skip ?_
              repeat (first | refine WpD.seq ?_ | refine WpD.block ?_)
              refine WpD.reg ?_
              refine RG.S0 (LT.plain rfl (rt_move rfl)) ?_
              refine RG.S0 (LT.plain rfl (rt_bin_to rfl rfl (fun w => run_subi w _ _ _ _ _ _) (vint h6))) ?_
              refine RG.S0 (LT.plain rfl (rt_assign rfl)) ?_
              refine RG.nil (by kernel_rfl) ?_
              refine ⟨⟨j, by omega, ?_⟩, ?_, Nat.lt_succ_self j⟩
              · rw [List.drop_eq_getElem_cons (by omega : j < a.length), List.drop_eq_getElem_cons (by omega : j < b.length), hd, (List.getElem?_eq_some_iff.1 hx).2, (List.getElem?_eq_some_iff.1 hy).2, show x = y by omega]
              ·
                refine Sub.mk ?_ ?_
                · repeat (first | exact trivial | refine ⟨⟨_, rfl, ⟨rfl, rfl⟩⟩, Option.some_ne_none _, ?_⟩ | refine ⟨⟨_, rfl, ⟨rfl, rfl, rfl, rfl⟩⟩, Option.some_ne_none _, ?_⟩ | refine ⟨⟨_, rfl, PLe.refl _⟩, trivial, ?_⟩)
                · repeat (first | exact trivial | refine ⟨⟨_, rfl, PsLe.refl _⟩, ?_⟩)
end
end Go.Proofs.YtnhbdldchoepfaaDoor

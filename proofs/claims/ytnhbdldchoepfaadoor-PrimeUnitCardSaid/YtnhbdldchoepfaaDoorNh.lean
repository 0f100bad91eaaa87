/- Natural numbers of the program: divNat, all numbers. -/
import Derived.Test.YtnhbdldchoepfaaDoorNg
namespace Go.Proofs.YtnhbdldchoepfaaDoor
open Go.RowKit Limb
section
variable (En : Ev)
theorem pd_pub (n k cap : Nat) (hc : k ≤ cap) : PLe (arrP ((pd n k).map lb) 0 k cap) (mag (pd n k)) := by
  have := arr_mag0 (l := pd n k) (cap := cap) (by rw [pd_length]; exact hc) (pd_lm _ _)
  rwa [pd_length] at this
set_option maxHeartbeats 2000000 in
theorem ndiv_long (x y : Nat) (hxy : y ≤ x) (hlen : (digs x).length ≤ 549755813888) (h2 : 2 < (digs x).length) (h1 : 2 ≤ (digs y).length) : Fn Tryd.prog En 42 [mag (digs x), mag (digs y)] (DivP x y) := by
  have hy : y ≠ 0 := by rintro rfl; simp [digs_zero] at h1
  have hle := digs_mono hxy
  obtain ⟨t, hget⟩ : ∃ t, (digs y)[(digs y).length - 1]? = some t := ⟨_, List.getElem?_eq_getElem (by omega)⟩
  have hlast : (digs y).getLast? = some t := by rw [List.getLast?_eq_getElem?]; exact hget
  have ht0 : t ≠ 0 := digs_last hlast
  have htB := (lm_digs y).get hget
  obtain ⟨hs, hn1, hn2⟩ := lz_spec ht0 htB
  obtain ⟨hVlt, hnorm⟩ := pd_shift hy hlast hn2 hn1
  have C2 := nlz32 En t ht0 htB
  generalize lz t = s at *
  have C1 := ncompare En (digs x) (digs y) (by omega) (lm_digs _) (lm_digs _)
  have C3 := nshl En (digs y) s (by omega) (lm_digs _) hs
  have C4 := nshl_own En (digs x) s (by omega) (lm_digs _) hs
  rw [val_digs] at C3 C4
  have L0 := LdInv.start hy hle hs
  have hV : 0 < y * 2 ^ s := Nat.mul_pos (by omega) (Nat.two_pow_pos s)
  obtain ⟨V, hVV⟩ : ∃ V, y * 2 ^ s = V := ⟨_, rfl⟩
  obtain ⟨X, hXX⟩ : ∃ X, x * 2 ^ s = X := ⟨_, rfl⟩
  have hdone := fun {R qs : List Nat} (h : LdInv (x * 2 ^ s) (y * 2 ^ s) ((digs x).length + 1) 0 R qs) => LdInv.done (by omega) h
  rw [hVV] at C3 hV hVlt hnorm L0 hdone
  rw [hXX] at C4 L0 hdone
  have b2 : decide (((digs x).length : Int) ≤ 2) = false := decide_eq_false (by omega)
  have b3 : (((digs y).length : Int) == 1) = false := by rw [beq_eq_false_iff_ne]; omega
  have e10 : IntKind.i64.wrap (((digs y).length : Int) - 1) = (((digs y).length - 1 : Nat) : Int) := by rw [w64 (by omega) (by omega)]; omega
  have hsl : (digs y).length ≤ (pd V ((digs y).length + 1)).length := by rw [pd_length]; omega
  have e13 : IntKind.i64.wrap (((digs x).length : Int) - ((digs y).length : Int)) = (((digs x).length - (digs y).length : Nat) : Int) := by rw [w64 (by omega) (by omega)]; omega
  have e14 : IntKind.i64.wrap ((((digs x).length - (digs y).length : Nat) : Int) + 1) = (((digs x).length - (digs y).length + 1 : Nat) : Int) := by rw [w64 (by omega) (by omega)]; omega
  refine fn_of_body Tryd.func42 rfl Tryd.ntmps42 rfl ?_
  intro w0 h0
  repeat (first | refine WpD.seq ?_ | refine WpD.block ?_)
  refine WpD.reg ?_
  refine RG.S0 (LT.plain rfl (rt_assign rfl)) ?_
  refine RG.S0 (LT.plain rfl (rt_assign rfl)) ?_
  refine RG.nil (by kernel_rfl) ?_
  repeat (first | refine WpD.seq ?_ | refine WpD.block ?_)
  refine WpD.reg ?_
  refine RG.S0 (LT.plain rfl (rt_move rfl)) ?_
  refine RG.S0 (LT.plain rfl (rt_move rfl)) ?_
  refine RG.S0 (LT.plain rfl (ru_call C1 ⟨rfl, rfl, trivial⟩)) ?_
  refine RG.S0 (LT.plain rfl (rt_bin_to rfl rfl (fun w => run_lti w _ _ _ _ _ _) (vbool (cmp_ge hxy)))) ?_
  refine RG.S0 (LT.plain rfl (rt_assign rfl)) ?_
  refine RG.nil (by kernel_rfl) ?_
  repeat (first | refine WpD.seq ?_ | refine WpD.block ?_)
  refine WpD.condF rfl ?_
  repeat (first | refine WpD.seq ?_ | refine WpD.block ?_)
  refine WpD.reg ?_
  refine RG.S0 (LT.plain rfl (rt_move rfl)) ?_
  refine RG.S0 (LT.plain rfl (ru_len rfl CSlice.ok)) ?_
  refine RG.S0 (LT.plain rfl (rt_bin_to rfl rfl (fun w => run_lei w _ _ _ _ _ _) (vbool b2))) ?_
  refine RG.S0 (LT.plain rfl (rt_assign rfl)) ?_
  refine RG.nil (by kernel_rfl) ?_
  repeat (first | refine WpD.seq ?_ | refine WpD.block ?_)
  refine WpD.condF rfl ?_
  repeat (first | refine WpD.seq ?_ | refine WpD.block ?_)
  refine WpD.reg ?_
  refine RG.S0 (LT.plain rfl (rt_move rfl)) ?_
  refine RG.S0 (LT.plain rfl (ru_len rfl CSlice.ok)) ?_
  refine RG.S0 (LT.plain rfl (rt_bin_to rfl rfl (fun w => run_eqi w _ _ _ _ _ _) (vbool b3))) ?_
  refine RG.S0 (LT.plain rfl (rt_assign rfl)) ?_
  refine RG.nil (by kernel_rfl) ?_
  repeat (first | refine WpD.seq ?_ | refine WpD.block ?_)
  refine WpD.condF rfl ?_
  repeat (first | refine WpD.seq ?_ | refine WpD.block ?_)
  refine WpD.skip ?_
  repeat (first | refine WpD.seq ?_ | refine WpD.block ?_)
  refine WpD.reg ?_
  refine RG.S0 (LT.plain rfl (rt_move rfl)) ?_
  refine RG.S0 (LT.plain rfl (rt_move rfl)) ?_
  refine RG.S0 (LT.plain rfl (ru_len rfl CSlice.ok)) ?_
  refine RG.S0 (LT.plain rfl (rt_bin_to rfl rfl (fun w => run_subi w _ _ _ _ _ _) (vint e10))) ?_
  refine RG.S0 (LT.plain rfl (rc_index rfl rfl (by assumption))) ?_
  refine RG.S0 (LT.plain rfl (rc_load1 rfl rfl)) ?_
  refine RG.S0 (LT.plain rfl (ru_call C2 ⟨rfl, trivial⟩)) ?_
  refine RG.S0 (LT.plain rfl (rt_assign rfl)) ?_
  refine RG.nil (by kernel_rfl) ?_
  repeat (first | refine WpD.seq ?_ | refine WpD.block ?_)
  refine WpD.reg ?_
  refine RG.S0 (LT.plain rfl (rt_move rfl)) ?_
  refine RG.S0 (LT.plain rfl (rt_move rfl)) ?_
  refine RG.S0 (LT.plain rfl (ru_call C3 ⟨rfl, rfl, trivial⟩)) ?_
  refine RG.S0 (LT.plain rfl (rt_move rfl)) ?_
  refine RG.S0 (LT.plain rfl (ru_len rfl CSlice.ok)) ?_
  refine RG.S0 (LT.plain rfl (rc_sliceH rfl rfl hsl)) ?_
  refine RG.S0 (LT.plain rfl (rt_assign rfl)) ?_
  refine RG.nil (by kernel_rfl) ?_
  rw [pd_take]
  repeat (first | refine WpD.seq ?_ | refine WpD.block ?_)
  refine WpD.reg ?_
  refine RG.S0 (LT.plain rfl (rt_move rfl)) ?_
  refine RG.S0 (LT.plain rfl (rt_move rfl)) ?_
  refine RG.S1 (LT.plain rfl (ru_callO C4 rfl ⟨rfl, rfl, trivial⟩ rfl rfl)) ?_
  refine RG.S0 (LT.plain rfl (rt_assign rfl)) ?_
  refine RG.nil (by kernel_rfl) ?_
  repeat (first | refine WpD.seq ?_ | refine WpD.block ?_)
  refine WpD.reg ?_
  refine RG.S0 (LT.plain rfl (rt_move rfl)) ?_
  refine RG.S0 (LT.plain rfl (ru_len rfl CSlice.ok)) ?_
  refine RG.S0 (LT.plain rfl (rt_move rfl)) ?_
  refine RG.S0 (LT.plain rfl (ru_len rfl CSlice.ok)) ?_
  refine RG.S0 (LT.plain rfl (rt_bin_to rfl rfl (fun w => run_subi w _ _ _ _ _ _) (vint e13))) ?_
  refine RG.S0 (LT.plain rfl (rt_bin_to rfl rfl (fun w => run_addi w _ _ _ _ _ _) (vint e14))) ?_
  refine RG.S1 (LT.plain rfl (ru_make rfl rfl rfl rfl (by omega) (by omega))) ?_
  refine RG.S0 (LT.plain rfl (rt_assign rfl)) ?_
  refine RG.nil (by kernel_rfl) ?_
  repeat (first | refine WpD.seq ?_ | refine WpD.block ?_)
  refine WpD.reg ?_
  refine RG.S0 (LT.plain rfl (rt_move rfl)) ?_
  refine RG.S0 (LT.plain rfl (ru_len rfl CSlice.ok)) ?_
  refine RG.S0 (LT.plain rfl (rt_move rfl)) ?_
  refine RG.S0 (LT.plain rfl (ru_len rfl CSlice.ok)) ?_
  refine RG.S0 (LT.plain rfl (rt_bin_to rfl rfl (fun w => run_subi w _ _ _ _ _ _) (vint e13))) ?_
  refine RG.S0 (LT.plain rfl (rt_assign rfl)) ?_
  refine RG.nil (by kernel_rfl) ?_
  repeat (first | refine WpD.seq ?_ | refine WpD.block ?_)
  refine WpD.loop (α := {p : Nat × List Nat × List Nat // p.1 ≤ (digs x).length - (digs y).length + 1 ∧ LdInv X V ((digs x).length + 1) p.1 p.2.1 p.2.2 ∧ p.2.2.length = (digs x).length - (digs y).length + 1 - p.1}) (fun p => ⟨[(1, .one (mag (digs y))), (4, .own 74 0 ((digs x).length - (digs y).length + 1) ((digs x).length - (digs y).length + 1)), (9, .one (ex (.int .i64 (s : Int)))), (10, .one (mag (pd V (digs y).length))), (11, .own 67 0 ((digs x).length + 1) ((digs x).length + 1)), (12, .one (ex (.int .i64 ((p.1.1 : Int) - 1))))], [(74, (List.replicate p.1.1 0 ++ p.1.2.2).map lb), (67, p.1.2.1.map lb)]⟩) (fun p => p.1.1) ⟨((digs x).length - (digs y).length + 1, pd X ((digs x).length + 1), []), Nat.le_refl _, L0, by simp⟩ ?_ ?_
  · have hz : List.replicate ((digs x).length - (digs y).length + 1) (ex (.int .u32 0)) = (List.replicate ((digs x).length - (digs y).length + 1) 0 ++ []).map lb := by rw [zerosL, List.append_nil]
    have hw : ((((digs x).length - (digs y).length : Nat) : Int)) = (((digs x).length - (digs y).length + 1 : Nat) : Int) - 1 := by omega
    rw [hw]
    refine Sub.mk ?_ ⟨⟨_, rfl, PsLe.of_eq hz⟩, ⟨_, rfl, PsLe.refl _⟩, trivial⟩
    repeat (first | exact trivial | refine ⟨⟨_, rfl, ⟨rfl, rfl⟩⟩, Option.some_ne_none _, ?_⟩ | refine ⟨⟨_, rfl, ⟨rfl, rfl, rfl, rfl⟩⟩, Option.some_ne_none _, ?_⟩ | refine ⟨⟨_, rfl, PLe.refl _⟩, trivial, ?_⟩)
  rintro ⟨⟨k, R, qs⟩, hk, hI, hql⟩
  simp only at hk hI hql
  dsimp only
  cases k with
  | zero =>
    obtain ⟨d1, d2⟩ := hdone hI
    obtain ⟨hRl, hRm, hqm, _, _⟩ := hI
    have b4 : decide ((((0 : Nat) : Int) - 1) ≥ 0) = false := by decide
    have C6 := nshr En R [] s ((digs x).length + 1) (by omega) hRm hs
    rw [List.append_nil, List.append_nil, hRl, d2] at C6
    have C7 := ntrim En qs hqm (by omega)
    rw [d1] at C7
    have hrl : x % y < B ^ ((digs x).length + 1) := Nat.lt_of_le_of_lt (Nat.mod_le _ _) (Nat.lt_of_lt_of_le (lt_of_digs x) (Nat.pow_le_pow_right B_pos (by omega)))
    have C8 := ntrim En (pd (x % y) ((digs x).length + 1)) (pd_lm _ _) (by rw [pd_length]; omega)
    rw [pd_val _ _ hrl] at C8
    rw [List.replicate_zero, List.nil_append]
    have hp1 : PLe (arrP (qs.map lb) 0 ((digs x).length - (digs y).length + 1) ((digs x).length - (digs y).length + 1)) (mag qs) := by
      have := arr_mag0 (l := qs) (cap := (digs x).length - (digs y).length + 1) (by omega) hqm
      rwa [hql] at this
    have hp2 := pd_pub (x % y) ((digs x).length + 1) ((digs x).length + 1) (Nat.le_refl _)
    repeat (first | refine WpD.seq ?_ | refine WpD.block ?_)
    refine WpD.reg ?_
    refine RG.S0 (LT.plain rfl (rt_move rfl)) ?_
    refine RG.S0 (LT.plain rfl (rt_bin_to rfl rfl (fun w => run_gei w _ _ _ _ _ _) (vbool b4))) ?_
    refine RG.nil (by kernel_rfl) ?_
    repeat (first | refine WpD.seq ?_ | refine WpD.block ?_)
    refine WpD.condF rfl ?_
    repeat (first | refine WpD.seq ?_ | refine WpD.block ?_)
    refine WpD.exit ?_
    repeat (first | refine WpD.seq ?_ | refine WpD.block ?_)
    refine WpD.reg ?_
    refine RG.S0 (LT.plain rfl (rt_move rfl)) ?_
    refine RG.S0 (LT.plain rfl (rt_move rfl)) ?_
    refine RG.S1 (LT.plain rfl (ru_callM (b := 67) C6 ⟨⟨rfl, rfl⟩, rfl, trivial⟩ rfl)) ?_
    refine RG.nil (by kernel_rfl) ?_
    refine WpD.sub (τ := ⟨[(4, .one (mag qs)), (11, .own 67 0 ((digs x).length + 1) ((digs x).length + 1))], [(67, (pd (x % y) ((digs x).length + 1)).map lb)]⟩) ?_ ?_
    ·
      refine Sub.pub 74 rfl rfl ?_ ⟨⟨_, rfl, PsLe.refl _⟩, trivial⟩ rfl
      repeat (first | exact trivial | refine ⟨.inl ⟨⟨_, rfl, PLe.refl _⟩, trivial⟩, ?_⟩ | refine ⟨.inl ⟨⟨_, rfl, ⟨rfl, rfl, rfl, rfl⟩⟩, Option.some_ne_none _⟩, ?_⟩ | refine ⟨.inr ⟨_, _, _, _, rfl, rfl, hp1⟩, ?_⟩)
    refine WpD.sub (τ := ⟨[(4, .one (mag qs)), (11, .one (mag (pd (x % y) ((digs x).length + 1))))], []⟩) ?_ ?_
    ·
      refine Sub.pub 67 rfl rfl ?_ trivial rfl
      repeat (first | exact trivial | refine ⟨.inl ⟨⟨_, rfl, PLe.refl _⟩, trivial⟩, ?_⟩ | refine ⟨.inl ⟨⟨_, rfl, ⟨rfl, rfl, rfl, rfl⟩⟩, Option.some_ne_none _⟩, ?_⟩ | refine ⟨.inr ⟨_, _, _, _, rfl, rfl, hp2⟩, ?_⟩)
    repeat (first | refine WpD.seq ?_ | refine WpD.block ?_)
    refine WpD.reg ?_
    refine RG.S0 (LT.plain rfl (rt_move rfl)) ?_
    refine RG.S0 (LT.plain rfl (ru_call C7 ⟨rfl, trivial⟩)) ?_
    refine RG.S0 (LT.plain rfl (rt_move rfl)) ?_
    refine RG.S0 (LT.plain rfl (ru_call C8 ⟨rfl, trivial⟩)) ?_
    refine RG.S0 (LT.plain rfl (rt_assign rfl)) ?_
    refine RG.S0 (LT.plain rfl (rt_assign rfl)) ?_
    refine RG.nil (by kernel_rfl) ?_
    repeat (first | refine WpD.seq ?_ | refine WpD.block ?_)
    refine WpD.ret ?_
    exact ret2 rfl (.tmp rfl) (.tmp rfl) (PLe.refl _)
  | succ j =>
    obtain ⟨hRl, hRm, hqm, _, _⟩ := id hI
    obtain ⟨Lo, u, Hi, hR, hLo, hul⟩ : ∃ Lo u Hi, R = Lo ++ (u ++ Hi) ∧ Lo.length = j ∧ u.length = (digs y).length + 1 := by
      refine ⟨R.take j, (R.drop j).take ((digs y).length + 1), (R.drop j).drop ((digs y).length + 1), ?_, by simp; omega, by simp; omega⟩
      rw [List.take_append_drop, List.take_append_drop]
    subst hR
    have hVu : V < B ^ (u.length - 1) := by rw [hul, Nat.add_sub_cancel]; exact hVlt
    obtain ⟨hult, hI'⟩ := hI.step hV hLo hVu (by omega)
    have hum : Lm u := hRm.sub fun z hz => by simp [hz]
    have hvl := pd_length V (digs y).length
    have hvv := pd_val V (digs y).length hVlt
    have C5 := nstep En Lo u Hi (pd V (digs y).length) ((digs x).length + 1 - j) (by rw [hvl]; omega) (by rw [hvl]; exact h1) (by rw [hvl]; exact hul) hum (pd_lm _ _) (by rw [hvl]; exact hnorm) (by rw [hvv]; exact hult)
    have e20 : (digs y).length + 1 = j + (digs y).length + 1 - j := by omega
    have hLo' : Lo.length = 0 + j := by omega
    rw [hvl, hvv, e20, hLo'] at C5
    have b4 : decide ((j : Int) ≥ 0) = true := decide_eq_true (by omega)
    have e7 : IntKind.i64.wrap ((j : Int) + ((digs y).length : Int)) = (j : Int) + ((digs y).length : Int) := w64 (by omega) (by omega)
    have e8 : IntKind.i64.wrap ((j : Int) + ((digs y).length : Int) + 1) = ((j + (digs y).length + 1 : Nat) : Int) := by rw [w64 (by omega) (by omega)]; omega
    have hjl : j < (digs x).length - (digs y).length + 1 := by omega
    have hsetl : j < ((List.replicate (j + 1) 0 ++ qs).map lb).length := by simp; omega
    have hset : ((List.replicate (j + 1) 0 ++ qs).map lb).set j (lb (val u / V)) = (List.replicate j 0 ++ (val u / V :: qs)).map lb := by
      have := setL (List.replicate j 0) qs 0 (val u / V)
      rw [List.length_replicate] at this
      rw [List.replicate_succ']
      simp only [List.append_assoc, List.cons_append, List.nil_append] at this ⊢
      exact this
    have e9 : IntKind.i64.wrap ((j : Int) - 1) = (j : Int) - 1 := w64 (by omega) (by omega)
    rw [show (((j + 1 : Nat) : Int) - 1) = (j : Int) by omega]
    repeat (first | refine WpD.seq ?_ | refine WpD.block ?_)
    refine WpD.reg ?_
    refine RG.S0 (LT.plain rfl (rt_move rfl)) ?_
    refine RG.S0 (LT.plain rfl (rt_bin_to rfl rfl (fun w => run_gei w _ _ _ _ _ _) (vbool b4))) ?_
    refine RG.nil (by kernel_rfl) ?_
    repeat (first | refine WpD.seq ?_ | refine WpD.block ?_)
    refine WpD.condT rfl ?_
    repeat (first | refine WpD.seq ?_ | refine WpD.block ?_)
    refine WpD.skip ?_
    repeat (first | refine WpD.seq ?_ | refine WpD.block ?_)
    refine WpD.reg ?_
    refine RG.S0 (LT.plain rfl (rt_move rfl)) ?_
    refine RG.S0 (LT.plain rfl (rt_move rfl)) ?_
    refine RG.S0 (LT.plain rfl (rt_move rfl)) ?_
    refine RG.S0 (LT.plain rfl (rt_move rfl)) ?_
    refine RG.S0 (LT.plain rfl (rt_move rfl)) ?_
    refine RG.S0 (LT.plain rfl (rt_move rfl)) ?_
    refine RG.S0 (LT.plain rfl (ru_len rfl CSlice.ok)) ?_
    refine RG.S0 (LT.plain rfl (rt_bin_to rfl rfl (fun w => run_addi w _ _ _ _ _ _) (vint e7))) ?_
    refine RG.S0 (LT.plain rfl (rt_bin_to rfl rfl (fun w => run_addi w _ _ _ _ _ _) (vint e8))) ?_
    refine RG.S0 (LT.plain rfl (ru_sliceLH rfl rfl rfl (by omega) (by omega) (by omega))) ?_
    refine RG.S0 (LT.plain rfl (rt_move rfl)) ?_
    refine RG.S1 (LT.plain rfl (ru_callM (b := 67) C5 ⟨⟨rfl, rfl⟩, rfl, trivial⟩ rfl)) ?_
    refine RG.S0 (LT.plain rfl (ru_index0 rfl rfl (by assumption))) ?_
    refine RG.N1 (LT.plain rfl (ru_set1 rfl rfl rfl (by assumption) (by assumption))) ?_
    refine RG.nil (by kernel_rfl) ?_
    repeat (first | refine WpD.seq ?_ | refine WpD.block ?_)
    refine WpD.reg ?_
    refine RG.S0 (LT.plain rfl (rt_move rfl)) ?_
    refine RG.S0 (LT.plain rfl (rt_bin_to rfl rfl (fun w => run_subi w _ _ _ _ _ _) (vint e9))) ?_
    refine RG.S0 (LT.plain rfl (rt_assign rfl)) ?_
    refine RG.nil (by kernel_rfl) ?_
    rw [hul] at hI'
    refine ⟨⟨(j, Lo ++ (pd (val u % V) ((digs y).length + 1) ++ Hi), val u / V :: qs), by simp only; omega, hI', by simp only [List.length_cons]; omega⟩, ?_, Nat.lt_succ_self j⟩
    have hz : (Lo ++ (pd (val u % V) (j + (digs y).length + 1 - j) ++ Hi)).map lb = (Lo ++ (pd (val u % V) ((digs y).length + 1) ++ Hi)).map lb := by rw [← e20]
    refine Sub.mk ?_ ⟨⟨_, rfl, PsLe.refl _⟩, ⟨_, rfl, PsLe.of_eq hz⟩, trivial⟩
    repeat (first | exact trivial | refine ⟨⟨_, rfl, ⟨rfl, rfl⟩⟩, Option.some_ne_none _, ?_⟩ | refine ⟨⟨_, rfl, ⟨rfl, rfl, rfl, rfl⟩⟩, Option.some_ne_none _, ?_⟩ | refine ⟨⟨_, rfl, PLe.refl _⟩, trivial, ?_⟩)
theorem ndiv (x y : Nat) (hlen : (digs x).length ≤ 549755813888) (hy : y ≠ 0) : Fn Tryd.prog En 42 [mag (digs x), mag (digs y)] (DivP x y) := by
  by_cases h1 : x < y
  · exact ndiv_less En x y hlen h1
  · by_cases h2 : (digs x).length ≤ 2
    · exact ndiv_word En x y (by omega) hy h2
    · by_cases h3 : (digs y).length = 1
      · exact ndiv_limb En x y (by omega) hlen (by omega) h3
      · have : 1 ≤ (digs y).length := by rw [digs_step hy]; simp
        exact ndiv_long En x y (by omega) hlen (by omega) (by omega)
end
end Go.Proofs.YtnhbdldchoepfaaDoor

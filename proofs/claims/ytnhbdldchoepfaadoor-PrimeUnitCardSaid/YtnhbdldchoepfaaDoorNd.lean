/- Natural numbers of the program: mulNat. -/
import Derived.Test.YtnhbdldchoepfaaDoorNc
import Derived.Test.YtnhbdldchoepfaaDoorLimb3
namespace Go.Proofs.YtnhbdldchoepfaaDoor
open Go.RowKit Limb
theorem val_one_lt {l : List Nat} (h : Lm l) (hl : l.length ≤ 1) : val l < B := by
  have h1 := val_lt h
  have : B ^ l.length ≤ B ^ 1 := Nat.pow_le_pow_right B_pos hl
  rw [Nat.pow_one] at this
  omega
theorem getL {L : List Nat} {i x : Nat} (h : L[i]? = some x) : (L.map lb)[i]? = some (lb x) := by rw [List.getElem?_map, h]; rfl
section
variable (En : Ev)
theorem nmul_small (a b : List Nat) (ha : a.length ≤ 1) (hb : b.length ≤ 1) (hla : Lm a) (hlb : Lm b) : Fn Tryd.prog En 31 [mag a, mag b] (mag (digs (val a * val b))) := by
  have C1 := nword En a hla (by omega)
  have C2 := nword En b hlb (by omega)
  have h1 := val_one_lt hla ha
  have h2 := val_one_lt hlb hb
  have h3 := (mul_bd B_pos h1 h2 B_pos).2
  have C3 := nfromWord En (val a * val b) (by omega)
  have b1 : decide ((a.length : Int) ≤ 1) = true := decide_eq_true (by omega)
  have b2 : decide ((b.length : Int) ≤ 1) = true := decide_eq_true (by omega)
  have e4 : IntKind.u64.wrap (((val a : Nat) : Int) * ((val b : Nat) : Int)) = ((val a * val b : Nat) : Int) := by rw [← Int.natCast_mul]; exact wu64 (by omega) (by omega)
  refine fn_of_body Tryd.func31 rfl Tryd.ntmps31 rfl ?_
  intro w0 h0
  repeat (first | refine WpD.seq ?_ | refine WpD.block ?_)
  refine WpD.reg ?_
  refine RG.S0 (LT.plain rfl (rt_assign rfl)) ?_
  refine RG.nil (by kernel_rfl) ?_
  repeat (first | refine WpD.seq ?_ | refine WpD.block ?_)
  refine WpD.reg ?_
  refine RG.S0 (LT.plain rfl (rt_move rfl)) ?_
  refine RG.S0 (LT.plain rfl (ru_len rfl CSlice.ok)) ?_
  refine RG.S0 (LT.plain rfl (rt_bin_to rfl rfl (fun w => run_lei w _ _ _ _ _ _) (vbool b1))) ?_
  refine RG.S0 (LT.plain rfl (rt_move rfl)) ?_
  first | refine RG.S0 (LT.run rfl rfl rfl (rt_move rfl)) ?_ | refine RG.S0 (LT.skip rfl rfl rfl) ?_
  first | refine RG.S0 (LT.run rfl rfl rfl (ru_len rfl CSlice.ok)) ?_ | refine RG.S0 (LT.skip rfl rfl rfl) ?_
  first | refine RG.S0 (LT.run rfl rfl rfl (rt_bin_to rfl rfl (fun w => run_lei w _ _ _ _ _ _) (vbool b2))) ?_ | refine RG.S0 (LT.skip rfl rfl rfl) ?_
  first | refine RG.S0 (LT.plain rfl (rt_pick_true rfl rfl)) ?_ | refine RG.S0 (LT.plain rfl (rt_pick_false rfl rfl)) ?_
  refine RG.nil (by kernel_rfl) ?_
  repeat (first | refine WpD.seq ?_ | refine WpD.block ?_)
  refine WpD.condT rfl ?_
  repeat (first | refine WpD.seq ?_ | refine WpD.block ?_)
  refine WpD.reg ?_
  refine RG.S0 (LT.plain rfl (rt_move rfl)) ?_
  refine RG.S0 (LT.plain rfl (ru_call C1 ⟨rfl, trivial⟩)) ?_
  refine RG.S0 (LT.plain rfl (rt_move rfl)) ?_
  refine RG.S0 (LT.plain rfl (ru_call C2 ⟨rfl, trivial⟩)) ?_
  refine RG.S0 (LT.plain rfl (rt_bin_to rfl rfl (fun w => run_muli w _ _ _ _ _ _) (vint e4))) ?_
  refine RG.S0 (LT.plain rfl (ru_call C3 ⟨rfl, trivial⟩)) ?_
  refine RG.S0 (LT.plain rfl (rt_assign rfl)) ?_
  refine RG.nil (by kernel_rfl) ?_
  repeat (first | refine WpD.seq ?_ | refine WpD.block ?_)
  refine WpD.ret ?_
  exact ret1 rfl (.tmp rfl) (PLe.refl _)
set_option maxHeartbeats 2000000 in
theorem nmul_big (a b : List Nat) (ha : a.length ≤ 274877906944) (hb : b.length ≤ 274877906944) (hbig : ¬ (a.length ≤ 1 ∧ b.length ≤ 1)) (hla : Lm a) (hlb : Lm b) : Fn Tryd.prog En 31 [mag a, mag b] (mag (digs (val a * val b))) := by
  refine fn_of_body Tryd.func31 rfl Tryd.ntmps31 rfl ?_
  intro w0 h0
  repeat (first | refine WpD.seq ?_ | refine WpD.block ?_)
  refine WpD.reg ?_
  refine RG.S0 (LT.plain rfl (rt_assign rfl)) ?_
  refine RG.nil (by kernel_rfl) ?_
  refine WpD.cut (α := Unit) (fun _ => ⟨[(0, .one (mag a)), (1, .one (mag b))], []⟩) ?_ ?_
  · by_cases h1 : a.length ≤ 1
    · have b1 : decide ((a.length : Int) ≤ 1) = true := decide_eq_true (by omega)
      have b2 : decide ((b.length : Int) ≤ 1) = false := decide_eq_false (by omega)
      repeat (first | refine WpD.seq ?_ | refine WpD.block ?_)
      refine WpD.reg ?_
      refine RG.S0 (LT.plain rfl (rt_move rfl)) ?_
      refine RG.S0 (LT.plain rfl (ru_len rfl CSlice.ok)) ?_
      refine RG.S0 (LT.plain rfl (rt_bin_to rfl rfl (fun w => run_lei w _ _ _ _ _ _) (vbool b1))) ?_
      refine RG.S0 (LT.plain rfl (rt_move rfl)) ?_
      first | refine RG.S0 (LT.run rfl rfl rfl (rt_move rfl)) ?_ | refine RG.S0 (LT.skip rfl rfl rfl) ?_
      first | refine RG.S0 (LT.run rfl rfl rfl (ru_len rfl CSlice.ok)) ?_ | refine RG.S0 (LT.skip rfl rfl rfl) ?_
      first | refine RG.S0 (LT.run rfl rfl rfl (rt_bin_to rfl rfl (fun w => run_lei w _ _ _ _ _ _) (vbool b2))) ?_ | refine RG.S0 (LT.skip rfl rfl rfl) ?_
      first | refine RG.S0 (LT.plain rfl (rt_pick_true rfl rfl)) ?_ | refine RG.S0 (LT.plain rfl (rt_pick_false rfl rfl)) ?_
      refine RG.nil (by kernel_rfl) ?_
      repeat (first | refine WpD.seq ?_ | refine WpD.block ?_)
      refine WpD.condF rfl ?_
      repeat (first | refine WpD.seq ?_ | refine WpD.block ?_)
      refine WpD.skip ?_
      refine ⟨(), ?_⟩
      refine Sub.mk ?_ ?_
      · repeat (first | exact trivial | refine ⟨⟨_, rfl, ⟨rfl, rfl⟩⟩, Option.some_ne_none _, ?_⟩ | refine ⟨⟨_, rfl, ⟨rfl, rfl, rfl, rfl⟩⟩, Option.some_ne_none _, ?_⟩ | refine ⟨⟨_, rfl, PLe.refl _⟩, trivial, ?_⟩)
      · repeat (first | exact trivial | refine ⟨⟨_, rfl, PsLe.refl _⟩, ?_⟩)
    · have b1 : decide ((a.length : Int) ≤ 1) = false := decide_eq_false (by omega)
      repeat (first | refine WpD.seq ?_ | refine WpD.block ?_)
      refine WpD.reg ?_
      refine RG.S0 (LT.plain rfl (rt_move rfl)) ?_
      refine RG.S0 (LT.plain rfl (ru_len rfl CSlice.ok)) ?_
      refine RG.S0 (LT.plain rfl (rt_bin_to rfl rfl (fun w => run_lei w _ _ _ _ _ _) (vbool b1))) ?_
      refine RG.S0 (LT.plain rfl (rt_move rfl)) ?_
      first | refine RG.S0 (LT.run rfl rfl rfl (rt_move rfl)) ?_ | refine RG.S0 (LT.skip rfl rfl rfl) ?_
      first | refine RG.S0 (LT.run rfl rfl rfl (ru_len rfl CSlice.ok)) ?_ | refine RG.S0 (LT.skip rfl rfl rfl) ?_
      first | refine RG.S0 (LT.run rfl rfl rfl (rt_bin rfl rfl (fun w => run_lei w _ _ _ _ _ _))) ?_ | refine RG.S0 (LT.skip rfl rfl rfl) ?_
      first | refine RG.S0 (LT.plain rfl (rt_pick_true rfl rfl)) ?_ | refine RG.S0 (LT.plain rfl (rt_pick_false rfl rfl)) ?_
      refine RG.nil (by kernel_rfl) ?_
      repeat (first | refine WpD.seq ?_ | refine WpD.block ?_)
      refine WpD.condF rfl ?_
      repeat (first | refine WpD.seq ?_ | refine WpD.block ?_)
      refine WpD.skip ?_
      refine ⟨(), ?_⟩
      refine Sub.mk ?_ ?_
      · repeat (first | exact trivial | refine ⟨⟨_, rfl, ⟨rfl, rfl⟩⟩, Option.some_ne_none _, ?_⟩ | refine ⟨⟨_, rfl, ⟨rfl, rfl, rfl, rfl⟩⟩, Option.some_ne_none _, ?_⟩ | refine ⟨⟨_, rfl, PLe.refl _⟩, trivial, ?_⟩)
      · repeat (first | exact trivial | refine ⟨⟨_, rfl, PsLe.refl _⟩, ?_⟩)
  rintro ⟨⟩
  have e4 : IntKind.i64.wrap ((a.length : Int) + (b.length : Int)) = ((a.length + b.length : Nat) : Int) := by rw [w64 (by omega) (by omega)]; omega
  repeat (first | refine WpD.seq ?_ | refine WpD.block ?_)
  refine WpD.reg ?_
  refine RG.S0 (LT.plain rfl (rt_move rfl)) ?_
  refine RG.S0 (LT.plain rfl (ru_len rfl CSlice.ok)) ?_
  refine RG.S0 (LT.plain rfl (rt_move rfl)) ?_
  refine RG.S0 (LT.plain rfl (ru_len rfl CSlice.ok)) ?_
  refine RG.S0 (LT.plain rfl (rt_bin_to rfl rfl (fun w => run_addi w _ _ _ _ _ _) (vint e4))) ?_
  refine RG.S1 (LT.plain rfl (ru_make rfl rfl rfl rfl (by omega) (by omega))) ?_
  refine RG.S0 (LT.plain rfl (rt_assign rfl)) ?_
  refine RG.nil (by kernel_rfl) ?_
  repeat (first | refine WpD.seq ?_ | refine WpD.block ?_)
  refine WpD.reg ?_
  refine RG.S0 (LT.plain rfl (rt_move rfl)) ?_
  refine RG.S0 (LT.plain rfl (ru_len rfl CSlice.ok)) ?_
  refine RG.S0 (LT.plain rfl (rt_move rfl)) ?_
  refine RG.nil (by kernel_rfl) ?_
  repeat (first | refine WpD.seq ?_ | refine WpD.block ?_)
  refine WpD.loop (α := {p : Nat × List Nat // p.1 ≤ a.length ∧ ProdInv a b p.1 p.2}) (fun p => ⟨[(1, .one (mag b)), (5, .own 31 0 (a.length + b.length) (a.length + b.length)), (32, .one (mag a)), (33, .one (ex (.int .i64 (a.length : Int)))), (34, .one (ex (.int .i64 (p.1.1 : Int))))], [(31, (p.1.2 ++ List.replicate (a.length - p.1.1) 0).map lb)]⟩) (fun p => a.length - p.1.1) ⟨(0, List.replicate b.length 0), Nat.zero_le _, ProdInv.start a b⟩ ?_ ?_
  · have hz : List.replicate (a.length + b.length) (ex (.int .u32 0)) = (List.replicate b.length 0 ++ List.replicate (a.length - 0) 0).map lb := by
      rw [zerosL, List.replicate_append_replicate, Nat.sub_zero, Nat.add_comm]
    refine Sub.mk ?_ ⟨⟨_, rfl, PsLe.of_eq hz⟩, trivial⟩
    repeat (first | exact trivial | refine ⟨⟨_, rfl, ⟨rfl, rfl⟩⟩, Option.some_ne_none _, ?_⟩ | refine ⟨⟨_, rfl, ⟨rfl, rfl, rfl, rfl⟩⟩, Option.some_ne_none _, ?_⟩ | refine ⟨⟨_, rfl, PLe.refl _⟩, trivial, ?_⟩)
  rintro ⟨⟨i, Q⟩, hi, hP⟩
  simp only at hi hP
  dsimp only
  obtain ⟨hQl, hQm, hQv⟩ := id hP
  by_cases hlt : i < a.length
  · obtain ⟨x, hx⟩ : ∃ x, a[i]? = some x := ⟨_, List.getElem?_eq_getElem hlt⟩
    have hxB := hla.get hx
    have b1 : decide ((i : Int) < (a.length : Int)) = true := decide_eq_true (by omega)
    have e13 : IntKind.i64.wrap ((i : Int) + 1) = ((i + 1 : Nat) : Int) := by rw [w64 (by omega) (by omega)]; omega
    have hrep : List.replicate (a.length - i) 0 = 0 :: List.replicate (a.length - (i + 1)) 0 := by rw [show a.length - i = (a.length - (i + 1)) + 1 by omega, List.replicate_succ]
    repeat (first | refine WpD.seq ?_ | refine WpD.block ?_)
    refine WpD.reg ?_
    refine RG.S0 (LT.plain rfl (rt_bin_to rfl rfl (fun w => run_lti w _ _ _ _ _ _) (vbool b1))) ?_
    refine RG.nil (by kernel_rfl) ?_
    repeat (first | refine WpD.seq ?_ | refine WpD.block ?_)
    refine WpD.condT rfl ?_
    repeat (first | refine WpD.seq ?_ | refine WpD.block ?_)
    refine WpD.skip ?_
    repeat (first | refine WpD.seq ?_ | refine WpD.block ?_)
    refine WpD.reg ?_
    refine RG.S0 (LT.plain rfl (rt_move rfl)) ?_
    refine RG.S0 (LT.plain rfl (rc_index rfl rfl (by assumption))) ?_
    refine RG.S0 (LT.plain rfl (rc_load1 rfl rfl)) ?_
    refine RG.S0 (LT.plain rfl (rt_assign rfl)) ?_
    refine RG.S0 (LT.plain rfl (rt_assign rfl)) ?_
    refine RG.nil (by kernel_rfl) ?_
    by_cases hx0 : x = 0
    · have b2 : ((x : Int) == 0) = true := by rw [hx0]; rfl
      rw [hx0] at hx
      repeat (first | refine WpD.seq ?_ | refine WpD.block ?_)
      refine WpD.reg ?_
      refine RG.S0 (LT.plain rfl (rt_move rfl)) ?_
      refine RG.S0 (LT.plain rfl (rt_bin_to rfl rfl (fun w => run_eqi w _ _ _ _ _ _) (vbool b2))) ?_
      refine RG.nil (by kernel_rfl) ?_
      repeat (first | refine WpD.seq ?_ | refine WpD.block ?_)
      refine WpD.condT rfl ?_
      repeat (first | refine WpD.seq ?_ | refine WpD.block ?_)
      refine WpD.exit ?_
      repeat (first | refine WpD.seq ?_ | refine WpD.block ?_)
      refine WpD.reg ?_
      refine RG.S0 (LT.plain rfl (rt_bin_to rfl rfl (fun w => run_addi w _ _ _ _ _ _) (vint e13))) ?_
      refine RG.S0 (LT.plain rfl (rt_move rfl)) ?_
      refine RG.nil (by kernel_rfl) ?_
      refine ⟨⟨(i + 1, Q ++ [0]), hlt, hP.zero hx⟩, ?_, by simp only; omega⟩
      have hz : (Q ++ List.replicate (a.length - i) 0).map lb = ((Q ++ [0]) ++ List.replicate (a.length - (i + 1)) 0).map lb := by rw [hrep]; simp
      refine Sub.mk ?_ ⟨⟨_, rfl, PsLe.of_eq hz⟩, trivial⟩
      repeat (first | exact trivial | refine ⟨⟨_, rfl, ⟨rfl, rfl⟩⟩, Option.some_ne_none _, ?_⟩ | refine ⟨⟨_, rfl, ⟨rfl, rfl, rfl, rfl⟩⟩, Option.some_ne_none _, ?_⟩ | refine ⟨⟨_, rfl, PLe.refl _⟩, trivial, ?_⟩)
    · have b2 : ((x : Int) == 0) = false := by rw [beq_eq_false_iff_ne]; omega
      have e5 : IntKind.i64.wrap ((i : Int) + (b.length : Int)) = (i : Int) + (b.length : Int) := w64 (by omega) (by omega)
      have e6 : IntKind.i64.wrap ((i : Int) + (b.length : Int) + 1) = ((i + b.length + 1 : Nat) : Int) := by rw [w64 (by omega) (by omega)]; omega
      repeat (first | refine WpD.seq ?_ | refine WpD.block ?_)
      refine WpD.reg ?_
      refine RG.S0 (LT.plain rfl (rt_move rfl)) ?_
      refine RG.S0 (LT.plain rfl (rt_bin_to rfl rfl (fun w => run_eqi w _ _ _ _ _ _) (vbool b2))) ?_
      refine RG.nil (by kernel_rfl) ?_
      repeat (first | refine WpD.seq ?_ | refine WpD.block ?_)
      refine WpD.condF rfl ?_
      repeat (first | refine WpD.seq ?_ | refine WpD.block ?_)
      refine WpD.skip ?_
      repeat (first | refine WpD.seq ?_ | refine WpD.block ?_)
      refine WpD.reg ?_
      refine RG.S0 (LT.plain rfl (rt_move rfl)) ?_
      refine RG.S0 (LT.plain rfl (rt_move rfl)) ?_
      refine RG.S0 (LT.plain rfl (rt_move rfl)) ?_
      refine RG.S0 (LT.plain rfl (rt_move rfl)) ?_
      refine RG.S0 (LT.plain rfl (ru_len rfl CSlice.ok)) ?_
      refine RG.S0 (LT.plain rfl (rt_bin_to rfl rfl (fun w => run_addi w _ _ _ _ _ _) (vint e5))) ?_
      refine RG.S0 (LT.plain rfl (rt_bin_to rfl rfl (fun w => run_addi w _ _ _ _ _ _) (vint e6))) ?_
      refine RG.S0 (LT.plain rfl (ru_sliceLH rfl rfl rfl (by omega) (by omega) (by omega))) ?_
      refine RG.S0 (LT.plain rfl (rt_assign rfl)) ?_
      refine RG.nil (by kernel_rfl) ?_
      repeat (first | refine WpD.seq ?_ | refine WpD.block ?_)
      refine WpD.reg ?_
      refine RG.S0 (LT.plain rfl (rt_assign rfl)) ?_
      refine RG.nil (by kernel_rfl) ?_
      repeat (first | refine WpD.seq ?_ | refine WpD.block ?_)
      refine WpD.reg ?_
      refine RG.S0 (LT.plain rfl (rt_move rfl)) ?_
      refine RG.S0 (LT.plain rfl (ru_len rfl CSlice.ok)) ?_
      refine RG.S0 (LT.plain rfl (rt_move rfl)) ?_
      refine RG.nil (by kernel_rfl) ?_
      repeat (first | refine WpD.seq ?_ | refine WpD.block ?_)
      refine WpD.loop (α := {p : Nat × List Nat × Nat // p.1 ≤ b.length ∧ MulInv (Q.drop i) b x p.1 p.2.1 p.2.2}) (fun p => ⟨[(1, .one (mag b)), (5, .own 31 0 (a.length + b.length) (a.length + b.length)), (7, .one (lb x)), (8, .own 31 (0 + i) (i + b.length + 1 - i) (a.length + b.length - i)), (9, .one (ex (.int .u64 (p.1.2.2 : Int)))), (32, .one (mag a)), (33, .one (ex (.int .i64 (a.length : Int)))), (34, .one (ex (.int .i64 (i : Int)))), (49, .one (mag b)), (50, .one (ex (.int .i64 (b.length : Int)))), (51, .one (ex (.int .i64 (p.1.1 : Int))))], [(31, (Q.take i ++ (p.1.2.1 ++ ((Q.drop i).drop p.1.1 ++ List.replicate (a.length - i) 0))).map lb)]⟩) (fun p => b.length - p.1.1) ⟨(0, [], 0), Nat.zero_le _, MulInv.start _ _ _⟩ ?_ ?_
      · have hz : (Q ++ List.replicate (a.length - i) 0).map lb = (Q.take i ++ ([] ++ ((Q.drop i).drop 0 ++ List.replicate (a.length - i) 0))).map lb := by
          rw [List.drop_zero, List.nil_append, ← List.append_assoc, List.take_append_drop]
        refine Sub.mk ?_ ⟨⟨_, rfl, PsLe.of_eq hz⟩, trivial⟩
        repeat (first | exact trivial | refine ⟨⟨_, rfl, ⟨rfl, rfl⟩⟩, Option.some_ne_none _, ?_⟩ | refine ⟨⟨_, rfl, ⟨rfl, rfl, rfl, rfl⟩⟩, Option.some_ne_none _, ?_⟩ | refine ⟨⟨_, rfl, PLe.refl _⟩, trivial, ?_⟩)
      rintro ⟨⟨j, N, c⟩, hj, hM⟩
      simp only at hj hM
      dsimp only
      obtain ⟨hNl, hNm, hcB, _⟩ := id hM
      have hti : (Q.take i).length = i := by simp; omega
      have hRl : (Q.drop i).length = b.length := by simp; omega
      have hRm := hQm.drop i
      by_cases hjb : j < b.length
      · obtain ⟨y, hy⟩ : ∃ y, b[j]? = some y := ⟨_, List.getElem?_eq_getElem hjb⟩
        obtain ⟨r, hr⟩ : ∃ r, (Q.drop i)[j]? = some r := ⟨_, List.getElem?_eq_getElem (by omega)⟩
        have hyB := hlb.get hy
        have hrB := hRm.get hr
        obtain ⟨m1, m2⟩ := mul_bd hcB hxB hyB hrB
        have hM' := MulInv.step hxB hRm hlb hy hr hM
        rw [B_def] at hxB hyB hrB hcB m1
        have b3 : decide ((j : Int) < (b.length : Int)) = true := decide_eq_true (by omega)
        have e2 : IntKind.u64.wrap (x : Int) = (x : Int) := wu64 (by omega) (by omega)
        have e4' : IntKind.u64.wrap (y : Int) = (y : Int) := wu64 (by omega) (by omega)
        have e5' : IntKind.u64.wrap ((x : Int) * (y : Int)) = ((x * y : Nat) : Int) := by rw [← Int.natCast_mul]; exact wu64 (by omega) (by omega)
        have e10 : IntKind.u64.wrap (r : Int) = (r : Int) := wu64 (by omega) (by omega)
        have e11 : IntKind.u64.wrap (((x * y : Nat) : Int) + (r : Int)) = ((x * y + r : Nat) : Int) := by rw [wu64 (by omega) (by omega)]; omega
        have e12 : IntKind.u64.wrap ((c : Int) + ((x * y + r : Nat) : Int)) = ((c + (x * y + r) : Nat) : Int) := by rw [wu64 (by omega) (by omega)]; omega
        have hdr : (Q.drop i).drop j = r :: (Q.drop i).drop (j + 1) := by rw [List.drop_eq_getElem_cons (by omega : j < (Q.drop i).length), (List.getElem?_eq_some_iff.1 hr).2]
        have hidx : j < i + b.length + 1 - i := by omega
        have hget : ((Q.take i ++ (N ++ ((Q.drop i).drop j ++ List.replicate (a.length - i) 0))).map lb)[0 + i + j]? = some (lb r) := by
          refine getL ?_
          rw [List.getElem?_append_right (by omega), hti, List.getElem?_append_right (by omega), hNl, hdr, show 0 + i + j - i - j = 0 by omega]
          rfl
        have hsetl : 0 + i + j < ((Q.take i ++ (N ++ ((Q.drop i).drop j ++ List.replicate (a.length - i) 0))).map lb).length := by simp only [List.length_map, List.length_append, hti, hNl, List.length_drop, List.length_replicate]; omega
        have hset : ((Q.take i ++ (N ++ ((Q.drop i).drop j ++ List.replicate (a.length - i) 0))).map lb).set (0 + i + j) (ex (.int .u32 (((c + (x * y + r)) % B : Nat) : Int))) = (Q.take i ++ ((N ++ [(c + (x * y + r)) % B]) ++ ((Q.drop i).drop (j + 1) ++ List.replicate (a.length - i) 0))).map lb := by
          rw [hdr]
          have := setL (Q.take i ++ N) ((Q.drop i).drop (j + 1) ++ List.replicate (a.length - i) 0) r ((c + (x * y + r)) % B)
          rw [List.length_append, hti, hNl] at this
          rw [show 0 + i + j = i + j by omega]
          simp only [List.append_assoc, List.cons_append, List.nil_append] at this ⊢
          exact this
        have e16 : IntKind.i64.wrap ((j : Int) + 1) = ((j + 1 : Nat) : Int) := by rw [w64 (by omega) (by omega)]; omega
        repeat (first | refine WpD.seq ?_ | refine WpD.block ?_)
        refine WpD.reg ?_
        refine RG.S0 (LT.plain rfl (rt_bin_to rfl rfl (fun w => run_lti w _ _ _ _ _ _) (vbool b3))) ?_
        refine RG.nil (by kernel_rfl) ?_
        repeat (first | refine WpD.seq ?_ | refine WpD.block ?_)
        refine WpD.condT rfl ?_
        repeat (first | refine WpD.seq ?_ | refine WpD.block ?_)
        refine WpD.skip ?_
        repeat (first | refine WpD.seq ?_ | refine WpD.block ?_)
        refine WpD.reg ?_
        refine RG.S0 (LT.plain rfl (rt_move rfl)) ?_
        refine RG.S0 (LT.plain rfl (rc_index rfl rfl (by assumption))) ?_
        refine RG.S0 (LT.plain rfl (rc_load1 rfl rfl)) ?_
        refine RG.S0 (LT.plain rfl (rt_assign rfl)) ?_
        refine RG.S0 (LT.plain rfl (rt_assign rfl)) ?_
        refine RG.nil (by kernel_rfl) ?_
        repeat (first | refine WpD.seq ?_ | refine WpD.block ?_)
        refine WpD.reg ?_
        refine RG.S0 (LT.plain rfl (rt_move rfl)) ?_
        refine RG.S0 (LT.plain rfl (rt_move rfl)) ?_
        refine RG.S0 (LT.plain rfl (rt_conv_to rfl (fun w => run_convi w CInt.ok CInt.ok _ _) (vint e2))) ?_
        refine RG.S0 (LT.plain rfl (rt_move rfl)) ?_
        refine RG.S0 (LT.plain rfl (rt_conv_to rfl (fun w => run_convi w CInt.ok CInt.ok _ _) (vint e4'))) ?_
        refine RG.S0 (LT.plain rfl (rt_bin_to rfl rfl (fun w => run_muli w _ _ _ _ _ _) (vint e5'))) ?_
        refine RG.S0 (LT.plain rfl (rt_move rfl)) ?_
        refine RG.S0 (LT.plain rfl (rt_move rfl)) ?_
        refine RG.S0 (LT.plain rfl (ru_index rfl rfl (by assumption))) ?_
        refine RG.S0 (LT.plain rfl (ru_load1 rfl rfl (by assumption))) ?_
        refine RG.S0 (LT.plain rfl (rt_conv_to rfl (fun w => run_convi w CInt.ok CInt.ok _ _) (vint e10))) ?_
        refine RG.S0 (LT.plain rfl (rt_bin_to rfl rfl (fun w => run_addi w _ _ _ _ _ _) (vint e11))) ?_
        refine RG.S0 (LT.plain rfl (rt_bin_to rfl rfl (fun w => run_addi w _ _ _ _ _ _) (vint e12))) ?_
        refine RG.S0 (LT.plain rfl (rt_assign rfl)) ?_
        refine RG.nil (by kernel_rfl) ?_
        repeat (first | refine WpD.seq ?_ | refine WpD.block ?_)
        refine WpD.reg ?_
        refine RG.S0 (LT.plain rfl (rt_move rfl)) ?_
        refine RG.S0 (LT.plain rfl (rt_move rfl)) ?_
        refine RG.S0 (LT.plain rfl (rt_move rfl)) ?_
        refine RG.S0 (LT.plain rfl (rt_conv_to rfl (fun w => run_convi w CInt.ok CInt.ok _ _) (vint (u32w _)))) ?_
        refine RG.S0 (LT.plain rfl (ru_index rfl rfl (by assumption))) ?_
        refine RG.N1 (LT.plain rfl (ru_set1 rfl rfl rfl (by assumption) (by assumption))) ?_
        refine RG.nil (by kernel_rfl) ?_
        repeat (first | refine WpD.seq ?_ | refine WpD.block ?_)
        refine WpD.reg ?_
        refine RG.S0 (LT.plain rfl (rt_move rfl)) ?_
        refine RG.S0 (LT.plain rfl (rt_bin_to rfl rfl (fun w => run_shri w _ _ _ _ _ _ _ (by first | decide | omega | assumption)) (vint (shr32 _)))) ?_
        refine RG.S0 (LT.plain rfl (rt_assign rfl)) ?_
        refine RG.nil (by kernel_rfl) ?_
        repeat (first | refine WpD.seq ?_ | refine WpD.block ?_)
        refine WpD.reg ?_
        refine RG.S0 (LT.plain rfl (rt_bin_to rfl rfl (fun w => run_addi w _ _ _ _ _ _) (vint e16))) ?_
        refine RG.S0 (LT.plain rfl (rt_move rfl)) ?_
        refine RG.nil (by kernel_rfl) ?_
        refine ⟨⟨(j + 1, N ++ [(c + (x * y + r)) % B], (c + (x * y + r)) / B), hjb, hM'⟩, ?_, by simp only; omega⟩
        refine Sub.mk ?_ ?_
        · repeat (first | exact trivial | refine ⟨⟨_, rfl, ⟨rfl, rfl⟩⟩, Option.some_ne_none _, ?_⟩ | refine ⟨⟨_, rfl, ⟨rfl, rfl, rfl, rfl⟩⟩, Option.some_ne_none _, ?_⟩ | refine ⟨⟨_, rfl, PLe.refl _⟩, trivial, ?_⟩)
        · repeat (first | exact trivial | refine ⟨⟨_, rfl, PsLe.refl _⟩, ?_⟩)
      · have b3 : decide ((j : Int) < (b.length : Int)) = false := decide_eq_false (by omega)
        have hjb' : j = b.length := by omega
        subst hjb'
        have hidx : b.length < i + b.length + 1 - i := by omega
        have hdr : (Q.drop i).drop b.length = [] := List.drop_eq_nil_of_le (by omega)
        have hcw : ((c % B : Nat) : Int) = (c : Int) := by rw [Nat.mod_eq_of_lt hcB]
        have hsetl : 0 + i + b.length < ((Q.take i ++ (N ++ ((Q.drop i).drop b.length ++ List.replicate (a.length - i) 0))).map lb).length := by simp only [List.length_map, List.length_append, hti, hNl, List.length_drop, List.length_replicate]; omega
        have hset : ((Q.take i ++ (N ++ ((Q.drop i).drop b.length ++ List.replicate (a.length - i) 0))).map lb).set (0 + i + b.length) (ex (.int .u32 (c : Int))) = ((Q.take i ++ N ++ [c]) ++ List.replicate (a.length - (i + 1)) 0).map lb := by
          rw [hdr, hrep]
          have := setL (Q.take i ++ N) (List.replicate (a.length - (i + 1)) 0) 0 c
          rw [List.length_append, hti, hNl] at this
          rw [show 0 + i + b.length = i + b.length by omega]
          simp only [List.append_assoc, List.cons_append, List.nil_append] at this ⊢
          exact this
        repeat (first | refine WpD.seq ?_ | refine WpD.block ?_)
        refine WpD.reg ?_
        refine RG.S0 (LT.plain rfl (rt_bin_to rfl rfl (fun w => run_lti w _ _ _ _ _ _) (vbool b3))) ?_
        refine RG.nil (by kernel_rfl) ?_
        repeat (first | refine WpD.seq ?_ | refine WpD.block ?_)
        refine WpD.condF rfl ?_
        repeat (first | refine WpD.seq ?_ | refine WpD.block ?_)
        refine WpD.exit ?_
        repeat (first | refine WpD.seq ?_ | refine WpD.block ?_)
        refine WpD.reg ?_
        refine RG.S0 (LT.plain rfl (rt_move rfl)) ?_
        refine RG.S0 (LT.plain rfl (rt_move rfl)) ?_
        refine RG.S0 (LT.plain rfl (ru_len rfl CSlice.ok)) ?_
        refine RG.S0 (LT.plain rfl (rt_move rfl)) ?_
        refine RG.S0 (LT.plain rfl (rt_conv_to rfl (fun w => run_convi w CInt.ok CInt.ok _ _) (vint ((u32w _).trans hcw)))) ?_
        refine RG.S0 (LT.plain rfl (ru_index rfl rfl (by assumption))) ?_
        refine RG.N1 (LT.plain rfl (ru_set1 rfl rfl rfl (by assumption) (by assumption))) ?_
        refine RG.nil (by kernel_rfl) ?_
        repeat (first | refine WpD.seq ?_ | refine WpD.block ?_)
        refine WpD.reg ?_
        refine RG.S0 (LT.plain rfl (rt_bin_to rfl rfl (fun w => run_addi w _ _ _ _ _ _) (vint e13))) ?_
        refine RG.S0 (LT.plain rfl (rt_move rfl)) ?_
        refine RG.nil (by kernel_rfl) ?_
        refine ⟨⟨(i + 1, Q.take i ++ N ++ [c]), hlt, hP.step hx hM⟩, ?_, by simp only; omega⟩
        refine Sub.mk ?_ ?_
        · repeat (first | exact trivial | refine ⟨⟨_, rfl, ⟨rfl, rfl⟩⟩, Option.some_ne_none _, ?_⟩ | refine ⟨⟨_, rfl, ⟨rfl, rfl, rfl, rfl⟩⟩, Option.some_ne_none _, ?_⟩ | refine ⟨⟨_, rfl, PLe.refl _⟩, trivial, ?_⟩)
        · repeat (first | exact trivial | refine ⟨⟨_, rfl, PsLe.refl _⟩, ?_⟩)
  · have b1 : decide ((i : Int) < (a.length : Int)) = false := decide_eq_false (by omega)
    have hia : i = a.length := by omega
    subst hia
    obtain ⟨d1, d2⟩ := hP.done
    have C1 := ntrim En Q d1 (by omega)
    rw [d2] at C1
    rw [Nat.sub_self, List.replicate_zero, List.append_nil]
    repeat (first | refine WpD.seq ?_ | refine WpD.block ?_)
    refine WpD.reg ?_
    refine RG.S0 (LT.plain rfl (rt_bin_to rfl rfl (fun w => run_lti w _ _ _ _ _ _) (vbool b1))) ?_
    refine RG.nil (by kernel_rfl) ?_
    repeat (first | refine WpD.seq ?_ | refine WpD.block ?_)
    refine WpD.condF rfl ?_
    repeat (first | refine WpD.seq ?_ | refine WpD.block ?_)
    refine WpD.exit ?_
    refine WpD.sub (τ := ⟨[(5, .one (mag Q))], []⟩) ?_ ?_
    ·
      refine Sub.pub 31 rfl rfl ?_ trivial rfl
      repeat (first | exact trivial | refine ⟨.inl ⟨⟨_, rfl, PLe.refl _⟩, trivial⟩, ?_⟩ | refine ⟨.inr ⟨_, _, _, _, rfl, rfl, by rw [← hQl]; exact arr_mag0 (Nat.le_refl _) d1⟩, ?_⟩)
    repeat (first | refine WpD.seq ?_ | refine WpD.block ?_)
    refine WpD.reg ?_
    refine RG.S0 (LT.plain rfl (rt_move rfl)) ?_
    refine RG.S0 (LT.plain rfl (ru_call C1 ⟨rfl, trivial⟩)) ?_
    refine RG.S0 (LT.plain rfl (rt_assign rfl)) ?_
    refine RG.nil (by kernel_rfl) ?_
    repeat (first | refine WpD.seq ?_ | refine WpD.block ?_)
    refine WpD.ret ?_
    exact ret1 rfl (.tmp rfl) (PLe.refl _)
theorem nmul (a b : List Nat) (ha : a.length ≤ 274877906944) (hb : b.length ≤ 274877906944) (hla : Lm a) (hlb : Lm b) : Fn Tryd.prog En 31 [mag a, mag b] (mag (digs (val a * val b))) := by
  by_cases h : a.length ≤ 1 ∧ b.length ≤ 1
  · exact nmul_small En a b h.1 h.2 hla hlb
  · exact nmul_big En a b ha hb h hla hlb
end
end Go.Proofs.YtnhbdldchoepfaaDoor

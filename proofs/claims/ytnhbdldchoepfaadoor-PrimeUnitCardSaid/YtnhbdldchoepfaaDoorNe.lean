/- Natural numbers of the program: slices.Clone, divideByLimb, shiftLeft, shiftRight. -/
import Derived.Test.YtnhbdldchoepfaaDoorNd
import Derived.Test.YtnhbdldchoepfaaDoorMq
import Derived.Test.YtnhbdldchoepfaaDoorLimb4
namespace Go.Proofs.YtnhbdldchoepfaaDoor
open Go.RowKit Limb
instance : CBody Tryd.prog 55 := ⟨⟨_, Tryd.func55, rfl, by rfl⟩⟩
instance : CBody Tryd.prog 61 := ⟨⟨_, Tryd.func61, rfl, by rfl⟩⟩
instance : CBody Tryd.prog 70 := ⟨⟨_, Tryd.func70, rfl, by rfl⟩⟩
section
variable (En : Ev)
theorem nclone_own (l : List Nat) (hl : l ≠ []) (hlen : l.length ≤ 1099511627776) : FnG Tryd.prog En 55 ([mag l].map .one) [] (.own 7 0 l.length l.length) [(7, l.map lb)] := by
  have hm : l.length ≤ maxLen := by unfold maxLen; omega
  have hby : l.length * 4 ≤ 140737488355328 := by omega
  refine fn_of_bodyG Tryd.func55 rfl Tryd.ntmps55 rfl ?_
  intro w0 h0 c
  repeat (first | refine WpD.seq ?_ | refine WpD.block ?_)
  refine WpD.reg ?_
  refine RG.S0 (LT.plain rfl (rt_assign rfl)) ?_
  refine RG.nil (by kernel_rfl) ?_
  repeat (first | refine WpD.seq ?_ | refine WpD.block ?_)
  refine WpD.reg ?_
  refine RG.S0 (LT.plain rfl (rt_move rfl)) ?_
  refine RG.S0 (LT.plain rfl (rc_nilM hl rfl)) ?_
  refine RG.nil (by kernel_rfl) ?_
  repeat (first | refine WpD.seq ?_ | refine WpD.block ?_)
  refine WpD.condF rfl ?_
  repeat (first | refine WpD.seq ?_ | refine WpD.block ?_)
  refine WpD.skip ?_
  repeat (first | refine WpD.seq ?_ | refine WpD.block ?_)
  refine WpD.reg ?_
  refine RG.S0 (LT.plain rfl (rc_empty)) ?_
  refine RG.S0 (LT.plain rfl (rt_move rfl)) ?_
  refine RG.S1 (LT.plain rfl (ru_append1 rfl rfl hl hm hby rfl rfl)) ?_
  refine RG.S0 (LT.plain rfl (rt_assign rfl)) ?_
  refine RG.nil (by kernel_rfl) ?_
  repeat (first | refine WpD.seq ?_ | refine WpD.block ?_)
  refine WpD.ret ?_
  exact retG1 rfl rfl ⟨rfl, rfl, rfl, rfl⟩ (Option.some_ne_none _) ⟨⟨_, rfl, PsLe.refl _⟩, trivial⟩
theorem nclone (l : List Nat) (hlm : Lm l) (hlen : l.length ≤ 1099511627776) : Fn Tryd.prog En 55 [mag l] (mag l) := by
  by_cases hl : l = []
  · subst hl
    refine Fn.nil_or ?_ ?_
    ·
      refine fn_of_body Tryd.func55 rfl Tryd.ntmps55 rfl ?_
      intro w0 h0
      repeat (first | refine WpD.seq ?_ | refine WpD.block ?_)
      refine WpD.reg ?_
      refine RG.S0 (LT.plain rfl (rt_assign rfl)) ?_
      refine RG.nil (by kernel_rfl) ?_
      repeat (first | refine WpD.seq ?_ | refine WpD.block ?_)
      refine WpD.reg ?_
      refine RG.S0 (LT.plain rfl (rt_move rfl)) ?_
      refine RG.S0 (LT.plain rfl (rc_nilT rfl)) ?_
      refine RG.nil (by kernel_rfl) ?_
      repeat (first | refine WpD.seq ?_ | refine WpD.block ?_)
      refine WpD.condT rfl ?_
      repeat (first | refine WpD.seq ?_ | refine WpD.block ?_)
      refine WpD.reg ?_
      refine RG.S0 (LT.plain rfl (rt_assign rfl)) ?_
      refine RG.nil (by kernel_rfl) ?_
      repeat (first | refine WpD.seq ?_ | refine WpD.block ?_)
      refine WpD.ret ?_
      exact ret1 rfl (.tmp rfl) mag_nil
    ·
      refine fn_of_body Tryd.func55 rfl Tryd.ntmps55 rfl ?_
      intro w0 h0
      repeat (first | refine WpD.seq ?_ | refine WpD.block ?_)
      refine WpD.reg ?_
      refine RG.S0 (LT.plain rfl (rt_assign rfl)) ?_
      refine RG.nil (by kernel_rfl) ?_
      repeat (first | refine WpD.seq ?_ | refine WpD.block ?_)
      refine WpD.reg ?_
      refine RG.S0 (LT.plain rfl (rt_move rfl)) ?_
      refine RG.S0 (LT.plain rfl (rc_nilF rfl)) ?_
      refine RG.nil (by kernel_rfl) ?_
      repeat (first | refine WpD.seq ?_ | refine WpD.block ?_)
      refine WpD.condF rfl ?_
      repeat (first | refine WpD.seq ?_ | refine WpD.block ?_)
      refine WpD.skip ?_
      repeat (first | refine WpD.seq ?_ | refine WpD.block ?_)
      refine WpD.reg ?_
      refine RG.S0 (LT.plain rfl (rc_empty)) ?_
      refine RG.S0 (LT.plain rfl (rt_move rfl)) ?_
      refine RG.S0 (LT.plain rfl (rc_append0 rfl rfl)) ?_
      refine RG.S0 (LT.plain rfl (rt_assign rfl)) ?_
      refine RG.nil (by kernel_rfl) ?_
      repeat (first | refine WpD.seq ?_ | refine WpD.block ?_)
      refine WpD.ret ?_
      exact ret1 rfl (.tmp rfl) (PLe.refl _)
  · exact FnG.const (nclone_own En l hl hlen) rfl (arr_mag0 (Nat.le_refl _) hlm)
theorem or_shl32 {r x : Nat} (hr : r < B) (hx : x < B) : IntKind.u64.wrap ((BitVec.ofInt IntKind.u64.bits ((r * B : Nat) : Int) ||| BitVec.ofInt IntKind.u64.bits (x : Int)).toNat : Int) = ((r * B + x : Nat) : Int) := by
  have h := or_add (a := x) (b := r) (j := 32) hx (by rw [B_def] at hr; omega) (by omega)
  have e : 2 ^ 32 * r = r * B := Nat.mul_comm _ _
  rw [e] at h
  rw [BitVec.or_comm, h, Nat.add_comm]
set_option maxHeartbeats 1000000 in
theorem ndivLimb (m Z : List Nat) (d cap : Nat) (hlen : m.length ≤ 1099511627776) (hm : Lm m) (hd : 0 < d) (hdB : d < B) :
    FnG Tryd.prog En 60 [.own 1000 0 m.length cap, .one (lb d)] [(1000, (m ++ Z).map lb)] (.one (lb (val m % d))) [(1000, (pd (val m / d) m.length ++ Z).map lb)] := by
  have hw : IntKind.i64.wrap ((m.length : Int) - 1) = (m.length : Int) - 1 := w64 (by omega) (by omega)
  refine fn_of_bodyG Tryd.func60 rfl Tryd.ntmps60 rfl ?_
  intro w0 h0 c
  repeat (first | refine WpD.seq ?_ | refine WpD.block ?_)
  refine WpD.reg ?_
  refine RG.S0 (LT.plain rfl (rt_assign rfl)) ?_
  refine RG.nil (by kernel_rfl) ?_
  repeat (first | refine WpD.seq ?_ | refine WpD.block ?_)
  refine WpD.reg ?_
  refine RG.S0 (LT.plain rfl (rt_assign rfl)) ?_
  refine RG.nil (by kernel_rfl) ?_
  repeat (first | refine WpD.seq ?_ | refine WpD.block ?_)
  refine WpD.reg ?_
  refine RG.S0 (LT.plain rfl (rt_move rfl)) ?_
  refine RG.S0 (LT.plain rfl (ru_lenO rfl CSlice.ok)) ?_
  refine RG.S0 (LT.plain rfl (rt_bin_to rfl rfl (fun w => run_subi w _ _ _ _ _ _) (vint hw))) ?_
  refine RG.S0 (LT.plain rfl (rt_assign rfl)) ?_
  refine RG.nil (by kernel_rfl) ?_
  repeat (first | refine WpD.seq ?_ | refine WpD.block ?_)
  refine WpD.loop (α := {p : Nat × List Nat × Nat // p.1 ≤ m.length ∧ DvInv m d p.1 p.2.1 p.2.2}) (fun p => ⟨[(0, .own 1000 0 m.length cap), (1, .one (lb d)), (5, .one (ex (.int .u64 (p.1.2.2 : Int)))), (6, .one (ex (.int .i64 ((p.1.1 : Int) - 1))))], [(1000, (m.take p.1.1 ++ (p.1.2.1 ++ Z)).map lb)]⟩) (fun p => p.1.1) ⟨(m.length, [], 0), Nat.le_refl _, DvInv.start m hd⟩ ?_ ?_
  · have hz : (m ++ Z).map lb = (m.take m.length ++ ([] ++ Z)).map lb := by rw [List.take_length, List.nil_append]
    refine Sub.mk ?_ ⟨⟨_, rfl, PsLe.of_eq hz⟩, trivial⟩
    repeat (first | exact trivial | refine ⟨⟨_, rfl, ⟨rfl, rfl⟩⟩, Option.some_ne_none _, ?_⟩ | refine ⟨⟨_, rfl, ⟨rfl, rfl, rfl, rfl⟩⟩, Option.some_ne_none _, ?_⟩ | refine ⟨⟨_, rfl, PLe.refl _⟩, trivial, ?_⟩)
  rintro ⟨⟨k, Q, r⟩, hk, hI⟩
  simp only at hk hI
  dsimp only
  cases k with
  | zero =>
    obtain ⟨rfl, rfl⟩ := hI.done
    have b1 : decide ((((0 : Nat) : Int) - 1) ≥ 0) = false := by decide
    have hrB : ((val m % d % B : Nat) : Int) = ((val m % d : Nat) : Int) := by rw [Nat.mod_eq_of_lt (Nat.lt_trans (Nat.mod_lt _ hd) hdB)]
    rw [List.take_zero, List.nil_append]
    repeat (first | refine WpD.seq ?_ | refine WpD.block ?_)
    refine WpD.reg ?_
    refine RG.S0 (LT.plain rfl (rt_move rfl)) ?_
    refine RG.S0 (LT.plain rfl (rt_bin_to rfl rfl (fun w => run_gei w _ _ _ _ _ _) (vbool b1))) ?_
    refine RG.nil (by kernel_rfl) ?_
    repeat (first | refine WpD.seq ?_ | refine WpD.block ?_)
    refine WpD.condF rfl ?_
    repeat (first | refine WpD.seq ?_ | refine WpD.block ?_)
    refine WpD.exit ?_
    repeat (first | refine WpD.seq ?_ | refine WpD.block ?_)
    refine WpD.reg ?_
    refine RG.S0 (LT.plain rfl (rt_move rfl)) ?_
    refine RG.S0 (LT.plain rfl (rt_conv_to rfl (fun w => run_convi w CInt.ok CInt.ok _ _) (vint ((u32w _).trans hrB)))) ?_
    refine RG.S0 (LT.plain rfl (rt_assign rfl)) ?_
    refine RG.nil (by kernel_rfl) ?_
    repeat (first | refine WpD.seq ?_ | refine WpD.block ?_)
    refine WpD.ret ?_
    exact retG1 rfl rfl (PLe.refl _) trivial ⟨⟨_, rfl, PsLe.refl _⟩, trivial⟩
  | succ j =>
    obtain ⟨x, hx⟩ : ∃ x, m[j]? = some x := ⟨_, List.getElem?_eq_getElem (by omega)⟩
    have hxB := hm.get hx
    obtain ⟨hI', hqB⟩ := hI.step hx hm
    obtain ⟨hQl, hQm, hr, _⟩ := id hI
    have hrB : r < B := Nat.lt_trans hr hdB
    have b1 : decide ((j : Int) ≥ 0) = true := decide_eq_true (by omega)
    have e1 : IntKind.u64.wrap ((r : Int) * 2 ^ (min (32 : Int).toNat IntKind.u64.bits)) = ((r * B : Nat) : Int) := by
      show IntKind.u64.wrap ((r : Int) * 2 ^ 32) = _
      rw [B_def] at hrB ⊢
      rw [wu64 (by omega) (by omega)]; omega
    have e6 : IntKind.u64.wrap (x : Int) = (x : Int) := wu64 (by omega) (by rw [B_def] at hxB; omega)
    have e7 := or_shl32 hrB hxB
    have hd0 : (d : Int) ≠ 0 := by omega
    have ed : IntKind.u64.wrap (d : Int) = (d : Int) := wu64 (by omega) (by rw [B_def] at hdB; omega)
    have eq : IntKind.u64.wrap (((r * B + x : Nat) : Int).tdiv (d : Int)) = (((r * B + x) / d : Nat) : Int) := by
      rw [Int.tdiv_eq_ediv_of_nonneg (Int.natCast_nonneg _), ← Int.natCast_ediv]
      exact wu64 (Int.natCast_nonneg _) (Int.ofNat_lt.2 (Nat.lt_trans hqB (by decide)))
    have eqw : (((r * B + x) / d % B : Nat) : Int) = (((r * B + x) / d : Nat) : Int) := by rw [Nat.mod_eq_of_lt hqB]
    have er : ((r * B + x : Nat) : Int).tmod (d : Int) = (((r * B + x) % d : Nat) : Int) := by
      rw [Int.tmod_eq_emod_of_nonneg (Int.natCast_nonneg _), ← Int.natCast_emod]
    have hjl : j < m.length := by omega
    have htk : (m.take (j + 1)) = m.take j ++ [x] := by rw [List.take_succ_eq_append_getElem (by omega), (List.getElem?_eq_some_iff.1 hx).2]
    have hjt : (m.take j).length = j := by simp; omega
    have hget : ((m.take (j + 1) ++ (Q ++ Z)).map lb)[j]? = some (lb x) := by
      refine getL ?_
      rw [htk, List.append_assoc, List.getElem?_append_right (by omega), hjt, Nat.sub_self]; rfl
    have hsetl : j < ((m.take (j + 1) ++ (Q ++ Z)).map lb).length := by simp; omega
    have hset : ((m.take (j + 1) ++ (Q ++ Z)).map lb).set j (ex (.int .u32 (((r * B + x) / d : Nat) : Int))) = (m.take j ++ (((r * B + x) / d :: Q) ++ Z)).map lb := by
      have := setL (m.take j) (Q ++ Z) x ((r * B + x) / d)
      rw [hjt] at this
      rw [htk]
      simp only [List.append_assoc, List.cons_append, List.nil_append] at this ⊢
      exact this
    have e8 : IntKind.i64.wrap ((j : Int) - 1) = (j : Int) - 1 := w64 (by omega) (by omega)
    rw [show (((j + 1 : Nat) : Int) - 1) = (j : Int) by omega]
    repeat (first | refine WpD.seq ?_ | refine WpD.block ?_)
    refine WpD.reg ?_
    refine RG.S0 (LT.plain rfl (rt_move rfl)) ?_
    refine RG.S0 (LT.plain rfl (rt_bin_to rfl rfl (fun w => run_gei w _ _ _ _ _ _) (vbool b1))) ?_
    refine RG.nil (by kernel_rfl) ?_
    repeat (first | refine WpD.seq ?_ | refine WpD.block ?_)
    refine WpD.condT rfl ?_
    repeat (first | refine WpD.seq ?_ | refine WpD.block ?_)
    refine WpD.skip ?_
    repeat (first | refine WpD.seq ?_ | refine WpD.block ?_)
    refine WpD.reg ?_
    refine RG.S0 (LT.plain rfl (rt_move rfl)) ?_
    refine RG.S0 (LT.plain rfl (rt_bin_to rfl rfl (fun w => run_shli w _ _ _ _ _ _ _ (by first | decide | omega | assumption)) (vint e1))) ?_
    refine RG.S0 (LT.plain rfl (rt_move rfl)) ?_
    refine RG.S0 (LT.plain rfl (rt_move rfl)) ?_
    refine RG.S0 (LT.plain rfl (ru_index0 rfl rfl (by assumption))) ?_
    refine RG.S0 (LT.plain rfl (ru_load1 rfl rfl (by assumption))) ?_
    refine RG.S0 (LT.plain rfl (rt_conv_to rfl (fun w => run_convi w CInt.ok CInt.ok _ _) (vint e6))) ?_
    refine RG.S0 (LT.plain rfl (rt_bin_to rfl rfl (fun w => run_ori w _ _ _ _ _ _) (vint e7))) ?_
    refine RG.S0 (LT.plain rfl (rt_assign rfl)) ?_
    refine RG.nil (by kernel_rfl) ?_
    repeat (first | refine WpD.seq ?_ | refine WpD.block ?_)
    refine WpD.reg ?_
    refine RG.S0 (LT.plain rfl (rt_move rfl)) ?_
    refine RG.S0 (LT.plain rfl (rt_move rfl)) ?_
    refine RG.S0 (LT.plain rfl (rt_move rfl)) ?_
    refine RG.S0 (LT.plain rfl (rt_move rfl)) ?_
    refine RG.S0 (LT.plain rfl (rt_conv_to rfl (fun w => run_convi w CInt.ok CInt.ok _ _) (vint ed))) ?_
    refine RG.S0 (LT.plain rfl (rt_bin_to rfl rfl (fun w => run_quoi w _ _ _ _ _ _ (by first | decide | omega | assumption)) (vint eq))) ?_
    refine RG.S0 (LT.plain rfl (rt_conv_to rfl (fun w => run_convi w CInt.ok CInt.ok _ _) (vint ((u32w _).trans eqw)))) ?_
    refine RG.S0 (LT.plain rfl (ru_index0 rfl rfl (by assumption))) ?_
    refine RG.N1 (LT.plain rfl (ru_set1 rfl rfl rfl (by assumption) (by assumption))) ?_
    refine RG.nil (by kernel_rfl) ?_
    repeat (first | refine WpD.seq ?_ | refine WpD.block ?_)
    refine WpD.reg ?_
    refine RG.S0 (LT.plain rfl (rt_move rfl)) ?_
    refine RG.S0 (LT.plain rfl (rt_move rfl)) ?_
    refine RG.S0 (LT.plain rfl (rt_conv_to rfl (fun w => run_convi w CInt.ok CInt.ok _ _) (vint ed))) ?_
    refine RG.S0 (LT.plain rfl (rt_bin_to rfl rfl (fun w => run_remi w _ _ _ _ _ _ (by first | decide | omega | assumption)) (vint er))) ?_
    refine RG.S0 (LT.plain rfl (rt_assign rfl)) ?_
    refine RG.nil (by kernel_rfl) ?_
    repeat (first | refine WpD.seq ?_ | refine WpD.block ?_)
    refine WpD.reg ?_
    refine RG.S0 (LT.plain rfl (rt_move rfl)) ?_
    refine RG.S0 (LT.plain rfl (rt_bin_to rfl rfl (fun w => run_subi w _ _ _ _ _ _) (vint e8))) ?_
    refine RG.S0 (LT.plain rfl (rt_assign rfl)) ?_
    refine RG.nil (by kernel_rfl) ?_
    refine ⟨⟨(j, (r * B + x) / d :: Q, (r * B + x) % d), by simp only; omega, hI'⟩, ?_, Nat.lt_succ_self j⟩
    refine Sub.mk ?_ ?_
    · repeat (first | exact trivial | refine ⟨⟨_, rfl, ⟨rfl, rfl⟩⟩, Option.some_ne_none _, ?_⟩ | refine ⟨⟨_, rfl, ⟨rfl, rfl, rfl, rfl⟩⟩, Option.some_ne_none _, ?_⟩ | refine ⟨⟨_, rfl, PLe.refl _⟩, trivial, ?_⟩)
    · repeat (first | exact trivial | refine ⟨⟨_, rfl, PsLe.refl _⟩, ?_⟩)
set_option maxHeartbeats 1000000 in
theorem nshl_own (m : List Nat) (s : Nat) (hlen : m.length ≤ 1099511627776) (hm : Lm m) (hs : s < 32) :
    FnG Tryd.prog En 62 ([mag m, ex (.int .i64 (s : Int))].map .one) [] (.own 12 0 (m.length + 1) (m.length + 1)) [(12, (pd (val m * 2 ^ s) (m.length + 1)).map lb)] := by
  have e2 : IntKind.i64.wrap ((m.length : Int) + 1) = ((m.length + 1 : Nat) : Int) := by rw [w64 (by omega) (by omega)]; omega
  have hs0 : (0 : Int) ≤ (s : Int) := Int.natCast_nonneg _
  have hB : 2 ^ s ≤ B := by rw [show B = 2 ^ 32 from rfl]; exact Nat.pow_le_pow_right (by omega) (by omega)
  refine fn_of_bodyG Tryd.func62 rfl Tryd.ntmps62 rfl ?_
  intro w0 h0 c
  repeat (first | refine WpD.seq ?_ | refine WpD.block ?_)
  refine WpD.reg ?_
  refine RG.S0 (LT.plain rfl (rt_assign rfl)) ?_
  refine RG.nil (by kernel_rfl) ?_
  repeat (first | refine WpD.seq ?_ | refine WpD.block ?_)
  refine WpD.reg ?_
  refine RG.S0 (LT.plain rfl (rt_move rfl)) ?_
  refine RG.S0 (LT.plain rfl (ru_len rfl CSlice.ok)) ?_
  refine RG.S0 (LT.plain rfl (rt_bin_to rfl rfl (fun w => run_addi w _ _ _ _ _ _) (vint e2))) ?_
  refine RG.S1 (LT.plain rfl (ru_make rfl rfl rfl rfl (by omega) (by omega))) ?_
  refine RG.S0 (LT.plain rfl (rt_assign rfl)) ?_
  refine RG.nil (by kernel_rfl) ?_
  repeat (first | refine WpD.seq ?_ | refine WpD.block ?_)
  refine WpD.reg ?_
  refine RG.S0 (LT.plain rfl (rt_assign rfl)) ?_
  refine RG.nil (by kernel_rfl) ?_
  repeat (first | refine WpD.seq ?_ | refine WpD.block ?_)
  refine WpD.reg ?_
  refine RG.S0 (LT.plain rfl (rt_move rfl)) ?_
  refine RG.S0 (LT.plain rfl (ru_len rfl CSlice.ok)) ?_
  refine RG.S0 (LT.plain rfl (rt_move rfl)) ?_
  refine RG.nil (by kernel_rfl) ?_
  repeat (first | refine WpD.seq ?_ | refine WpD.block ?_)
  refine WpD.loop (α := {p : Nat × List Nat × Nat // p.1 ≤ m.length ∧ ShlInv m s p.1 p.2.1 p.2.2}) (fun p => ⟨[(0, .one (mag m)), (1, .one (ex (.int .i64 (s : Int)))), (5, .own 12 0 (m.length + 1) (m.length + 1)), (6, .one (ex (.int .u64 (p.1.2.2 : Int)))), (13, .one (mag m)), (14, .one (ex (.int .i64 (m.length : Int)))), (15, .one (ex (.int .i64 (p.1.1 : Int))))], [(12, (p.1.2.1 ++ List.replicate (m.length + 1 - p.1.1) 0).map lb)]⟩) (fun p => m.length - p.1.1) ⟨(0, [], 0), Nat.zero_le _, ShlInv.start m s⟩ ?_ ?_
  ·
    refine Sub.mk ?_ ⟨⟨_, rfl, PsLe.of_eq (zerosL _)⟩, trivial⟩
    repeat (first | exact trivial | refine ⟨⟨_, rfl, ⟨rfl, rfl⟩⟩, Option.some_ne_none _, ?_⟩ | refine ⟨⟨_, rfl, ⟨rfl, rfl, rfl, rfl⟩⟩, Option.some_ne_none _, ?_⟩ | refine ⟨⟨_, rfl, PLe.refl _⟩, trivial, ?_⟩)
  rintro ⟨⟨k, N, c⟩, hk, hI⟩
  simp only at hk hI
  dsimp only
  obtain ⟨hNl, hNm, hc, _⟩ := id hI
  by_cases hlt : k < m.length
  · obtain ⟨x, hx⟩ : ∃ x, m[k]? = some x := ⟨_, List.getElem?_eq_getElem hlt⟩
    have hxB := hm.get hx
    obtain ⟨hI', ht⟩ := hI.step hx hm
    have htB : 2 ^ s * B ≤ B * B := Nat.mul_le_mul_right _ hB
    have hBB : B * B = 18446744073709551616 := by decide
    have b1 : decide ((k : Int) < (m.length : Int)) = true := decide_eq_true (by omega)
    have e5 : IntKind.u64.wrap (x : Int) = (x : Int) := wu64 (by omega) (by rw [B_def] at hxB; omega)
    have h64 : 2 ^ s * x < 18446744073709551616 := by omega
    have e6 : IntKind.u64.wrap ((x : Int) * 2 ^ (min ((s : Int)).toNat IntKind.u64.bits)) = ((2 ^ s * x : Nat) : Int) := by
      rw [Int.toNat_natCast, show min s IntKind.u64.bits = s from Nat.min_eq_left (by show s ≤ 64; omega)]
      rw [show (x : Int) * 2 ^ s = ((2 ^ s * x : Nat) : Int) by rw [Int.natCast_mul, Int.natCast_pow, Int.mul_comm]; rfl]
      exact wu64 (Int.natCast_nonneg _) (Int.ofNat_lt.2 h64)
    have e7 := or_add hc h64 (by omega)
    have hkn : k < m.length + 1 := by omega
    have hmm : m.length + 1 - k = (m.length - k) + 1 := by omega
    have hsetl : k < ((N ++ List.replicate (m.length + 1 - k) 0).map lb).length := by simp; omega
    have hset : ((N ++ List.replicate (m.length + 1 - k) 0).map lb).set k (ex (.int .u32 (((c + 2 ^ s * x) % B : Nat) : Int))) = ((N ++ [(c + 2 ^ s * x) % B]) ++ List.replicate (m.length + 1 - (k + 1)) 0).map lb := by
      rw [hmm, show m.length + 1 - (k + 1) = m.length - k by omega]; exact setL0 hNl
    have e13 : IntKind.i64.wrap ((k : Int) + 1) = ((k + 1 : Nat) : Int) := by rw [w64 (by omega) (by omega)]; omega
    repeat (first | refine WpD.seq ?_ | refine WpD.block ?_)
    refine WpD.reg ?_
    refine RG.S0 (LT.plain rfl (rt_bin_to rfl rfl (fun w => run_lti w _ _ _ _ _ _) (vbool b1))) ?_
    refine RG.nil (by kernel_rfl) ?_
    repeat (first | refine WpD.seq ?_ | refine WpD.block ?_)
    refine WpD.condT rfl ?_
    repeat (first | refine WpD.seq ?_ | refine WpD.block ?_)
    refine WpD.skip ?_
    repeat (first | refine WpD.seq ?_ | refine WpD.block ?_)
    refine WpD.reg ?_
    refine RG.S0 (LT.plain rfl (rt_move rfl)) ?_
    refine RG.S0 (LT.plain rfl (rc_index rfl rfl (by assumption))) ?_
    refine RG.S0 (LT.plain rfl (rc_load1 rfl rfl)) ?_
    refine RG.S0 (LT.plain rfl (rt_assign rfl)) ?_
    refine RG.S0 (LT.plain rfl (rt_assign rfl)) ?_
    refine RG.nil (by kernel_rfl) ?_
    repeat (first | refine WpD.seq ?_ | refine WpD.block ?_)
    refine WpD.reg ?_
    refine RG.S0 (LT.plain rfl (rt_move rfl)) ?_
    refine RG.S0 (LT.plain rfl (rt_move rfl)) ?_
    refine RG.S0 (LT.plain rfl (rt_conv_to rfl (fun w => run_convi w CInt.ok CInt.ok _ _) (vint e5))) ?_
    refine RG.S0 (LT.plain rfl (rt_move rfl)) ?_
    refine RG.S0 (LT.plain rfl (rt_bin_to rfl rfl (fun w => run_shli w _ _ _ _ _ _ _ (by first | decide | omega | assumption)) (vint e6))) ?_
    refine RG.S0 (LT.plain rfl (rt_bin_to rfl rfl (fun w => run_ori w _ _ _ _ _ _) (vint e7))) ?_
    refine RG.S0 (LT.plain rfl (rt_assign rfl)) ?_
    refine RG.nil (by kernel_rfl) ?_
    repeat (first | refine WpD.seq ?_ | refine WpD.block ?_)
    refine WpD.reg ?_
    refine RG.S0 (LT.plain rfl (rt_move rfl)) ?_
    refine RG.S0 (LT.plain rfl (rt_move rfl)) ?_
    refine RG.S0 (LT.plain rfl (rt_move rfl)) ?_
    refine RG.S0 (LT.plain rfl (rt_conv_to rfl (fun w => run_convi w CInt.ok CInt.ok _ _) (vint (u32w _)))) ?_
    refine RG.S0 (LT.plain rfl (ru_index0 rfl rfl (by assumption))) ?_
    refine RG.N1 (LT.plain rfl (ru_set1 rfl rfl rfl (by assumption) (by assumption))) ?_
    refine RG.nil (by kernel_rfl) ?_
    repeat (first | refine WpD.seq ?_ | refine WpD.block ?_)
    refine WpD.reg ?_
    refine RG.S0 (LT.plain rfl (rt_move rfl)) ?_
    refine RG.S0 (LT.plain rfl (rt_bin_to rfl rfl (fun w => run_shri w _ _ _ _ _ _ _ (by first | decide | omega | assumption)) (vint (shr32 _)))) ?_
    refine RG.S0 (LT.plain rfl (rt_assign rfl)) ?_
    refine RG.nil (by kernel_rfl) ?_
    repeat (first | refine WpD.seq ?_ | refine WpD.block ?_)
    refine WpD.reg ?_
    refine RG.S0 (LT.plain rfl (rt_bin_to rfl rfl (fun w => run_addi w _ _ _ _ _ _) (vint e13))) ?_
    refine RG.S0 (LT.plain rfl (rt_move rfl)) ?_
    refine RG.nil (by kernel_rfl) ?_
    refine ⟨⟨(k + 1, N ++ [(c + 2 ^ s * x) % B], (c + 2 ^ s * x) / B), hlt, hI'⟩, ?_, by simp only; omega⟩
    refine Sub.mk ?_ ?_
    · repeat (first | exact trivial | refine ⟨⟨_, rfl, ⟨rfl, rfl⟩⟩, Option.some_ne_none _, ?_⟩ | refine ⟨⟨_, rfl, ⟨rfl, rfl, rfl, rfl⟩⟩, Option.some_ne_none _, ?_⟩ | refine ⟨⟨_, rfl, PLe.refl _⟩, trivial, ?_⟩)
    · repeat (first | exact trivial | refine ⟨⟨_, rfl, PsLe.refl _⟩, ?_⟩)
  · have b1 : decide ((k : Int) < (m.length : Int)) = false := decide_eq_false (by omega)
    have hkm : k = m.length := by omega
    subst hkm
    obtain ⟨d1, d2⟩ := hI.done hs
    have hkn : m.length < m.length + 1 := by omega
    have hsetl : m.length < ((N ++ List.replicate (m.length + 1 - m.length) 0).map lb).length := by simp; omega
    have hcw : ((c % B : Nat) : Int) = (c : Int) := by rw [Nat.mod_eq_of_lt d2]
    have hset : ((N ++ List.replicate (m.length + 1 - m.length) 0).map lb).set m.length (ex (.int .u32 (c : Int))) = (pd (val m * 2 ^ s) (m.length + 1)).map lb := by
      rw [← d1, show m.length + 1 - m.length = 0 + 1 by omega, show (N ++ [c]).map lb = ((N ++ [c]) ++ List.replicate 0 0).map lb by simp]; exact setL0 hNl
    repeat (first | refine WpD.seq ?_ | refine WpD.block ?_)
    refine WpD.reg ?_
    refine RG.S0 (LT.plain rfl (rt_bin_to rfl rfl (fun w => run_lti w _ _ _ _ _ _) (vbool b1))) ?_
    refine RG.nil (by kernel_rfl) ?_
    repeat (first | refine WpD.seq ?_ | refine WpD.block ?_)
    refine WpD.condF rfl ?_
    repeat (first | refine WpD.seq ?_ | refine WpD.block ?_)
    refine WpD.exit ?_
    repeat (first | refine WpD.seq ?_ | refine WpD.block ?_)
    refine WpD.reg ?_
    refine RG.S0 (LT.plain rfl (rt_move rfl)) ?_
    refine RG.S0 (LT.plain rfl (rt_move rfl)) ?_
    refine RG.S0 (LT.plain rfl (ru_len rfl CSlice.ok)) ?_
    refine RG.S0 (LT.plain rfl (rt_move rfl)) ?_
    refine RG.S0 (LT.plain rfl (rt_conv_to rfl (fun w => run_convi w CInt.ok CInt.ok _ _) (vint ((u32w _).trans hcw)))) ?_
    refine RG.S0 (LT.plain rfl (ru_index0 rfl rfl (by assumption))) ?_
    refine RG.N1 (LT.plain rfl (ru_set1 rfl rfl rfl (by assumption) (by assumption))) ?_
    refine RG.nil (by kernel_rfl) ?_
    repeat (first | refine WpD.seq ?_ | refine WpD.block ?_)
    refine WpD.reg ?_
    refine RG.S0 (LT.plain rfl (rt_move rfl)) ?_
    refine RG.S0 (LT.plain rfl (rt_assign rfl)) ?_
    refine RG.nil (by kernel_rfl) ?_
    repeat (first | refine WpD.seq ?_ | refine WpD.block ?_)
    refine WpD.ret ?_
    exact retG1 rfl rfl ⟨rfl, rfl, rfl, rfl⟩ (Option.some_ne_none _) ⟨⟨_, rfl, PsLe.refl _⟩, trivial⟩
theorem nshl (m : List Nat) (s : Nat) (hlen : m.length ≤ 1099511627776) (hm : Lm m) (hs : s < 32) :
    Fn Tryd.prog En 62 [mag m, ex (.int .i64 (s : Int))] (mag (pd (val m * 2 ^ s) (m.length + 1))) := by
  refine FnG.const (nshl_own En m s hlen hm hs) rfl ?_
  have := arr_mag0 (l := pd (val m * 2 ^ s) (m.length + 1)) (cap := m.length + 1) (by rw [pd_length]; omega) (pd_lm _ _)
  rwa [pd_length] at this
set_option maxHeartbeats 1000000 in
theorem nshr (m Z : List Nat) (s cap : Nat) (hlen : m.length ≤ 1099511627776) (hm : Lm m) (hs : s < 32) :
    FnG Tryd.prog En 64 [.own 1000 0 m.length cap, .one (ex (.int .i64 (s : Int)))] [(1000, (m ++ Z).map lb)] (.one (ex (.tuple #[]))) [(1000, (pd (val m / 2 ^ s) m.length ++ Z).map lb)] := by
  have hs0 : (0 : Int) ≤ (s : Int) := Int.natCast_nonneg _
  refine fn_of_bodyG Tryd.func64 rfl Tryd.ntmps64 rfl ?_
  intro w0 h0 c
  repeat (first | refine WpD.seq ?_ | refine WpD.block ?_)
  refine WpD.reg ?_
  refine RG.S0 (LT.plain rfl (rt_move rfl)) ?_
  refine RG.S0 (LT.plain rfl (ru_lenO rfl CSlice.ok)) ?_
  refine RG.S0 (LT.plain rfl (rt_move rfl)) ?_
  refine RG.nil (by kernel_rfl) ?_
  repeat (first | refine WpD.seq ?_ | refine WpD.block ?_)
  refine WpD.loop (α := {p : Nat × List Nat // p.1 ≤ m.length ∧ ShrInv m s p.1 p.2}) (fun p => ⟨[(0, .own 1000 0 m.length cap), (1, .one (ex (.int .i64 (s : Int)))), (7, .one (ex (.int .i64 (m.length : Int)))), (8, .one (ex (.int .i64 (p.1.1 : Int))))], [(1000, (p.1.2 ++ (m.drop p.1.1 ++ Z)).map lb)]⟩) (fun p => m.length - p.1.1) ⟨(0, []), Nat.zero_le _, ShrInv.start m s⟩ ?_ ?_
  ·
    refine Sub.mk ?_ ?_
    · repeat (first | exact trivial | refine ⟨⟨_, rfl, ⟨rfl, rfl⟩⟩, Option.some_ne_none _, ?_⟩ | refine ⟨⟨_, rfl, ⟨rfl, rfl, rfl, rfl⟩⟩, Option.some_ne_none _, ?_⟩ | refine ⟨⟨_, rfl, PLe.refl _⟩, trivial, ?_⟩)
    · repeat (first | exact trivial | refine ⟨⟨_, rfl, PsLe.refl _⟩, ?_⟩)
  rintro ⟨⟨k, N⟩, hk, hI⟩
  simp only at hk hI
  dsimp only
  obtain ⟨hNl, hNm, _⟩ := id hI
  by_cases hlt : k < m.length
  · obtain ⟨x, hx⟩ : ∃ x, m[k]? = some x := ⟨_, List.getElem?_eq_getElem hlt⟩
    have hxB := hm.get hx
    have hI' := hI.step hs hx hm
    obtain ⟨y, hy⟩ : ∃ y, m[k + 1]?.getD 0 = y := ⟨_, rfl⟩
    rw [hy] at hI'
    have hyB : y < B := by rw [← hy]; exact getD_lt hm (k + 1)
    have hdr : m.drop k = x :: m.drop (k + 1) := by rw [List.drop_eq_getElem_cons hlt, (List.getElem?_eq_some_iff.1 hx).2]
    have b1 : decide ((k : Int) < (m.length : Int)) = true := decide_eq_true (by omega)
    have e1 : IntKind.i64.wrap ((k : Int) + 1) = ((k + 1 : Nat) : Int) := by rw [w64 (by omega) (by omega)]; omega
    have e4 : IntKind.u64.wrap (x : Int) = (x : Int) := wu64 (by omega) (by rw [B_def] at hxB; omega)
    have hget : ((N ++ (m.drop k ++ Z)).map lb)[k]? = some (lb x) := by
      refine getL ?_
      rw [List.getElem?_append_right (by omega), hNl, Nat.sub_self, hdr]; rfl
    have hsetl : k < ((N ++ (m.drop k ++ Z)).map lb).length := by simp; omega
    obtain ⟨q, hq⟩ : ∃ q, (x + B * y) / 2 ^ s = q := ⟨_, rfl⟩
    have hset : ((N ++ (m.drop k ++ Z)).map lb).set k (ex (.int .u32 ((q % B : Nat) : Int))) = ((N ++ [q % B]) ++ (m.drop (k + 1) ++ Z)).map lb := by
      have := setL N (m.drop (k + 1) ++ Z) x (q % B)
      rw [hNl] at this
      rw [hdr]
      simp only [List.append_assoc, List.cons_append, List.nil_append] at this ⊢
      exact this
    repeat (first | refine WpD.seq ?_ | refine WpD.block ?_)
    refine WpD.reg ?_
    refine RG.S0 (LT.plain rfl (rt_bin_to rfl rfl (fun w => run_lti w _ _ _ _ _ _) (vbool b1))) ?_
    refine RG.nil (by kernel_rfl) ?_
    repeat (first | refine WpD.seq ?_ | refine WpD.block ?_)
    refine WpD.condT rfl ?_
    repeat (first | refine WpD.seq ?_ | refine WpD.block ?_)
    refine WpD.skip ?_
    repeat (first | refine WpD.seq ?_ | refine WpD.block ?_)
    refine WpD.reg ?_
    refine RG.S0 (LT.plain rfl (rt_move rfl)) ?_
    refine RG.S0 (LT.plain rfl (rt_assign rfl)) ?_
    refine RG.nil (by kernel_rfl) ?_
    repeat (first | refine WpD.seq ?_ | refine WpD.block ?_)
    refine WpD.reg ?_
    refine RG.S0 (LT.plain rfl (rt_move rfl)) ?_
    refine RG.S0 (LT.plain rfl (rt_move rfl)) ?_
    refine RG.S0 (LT.plain rfl (ru_index0 rfl rfl (by assumption))) ?_
    refine RG.S0 (LT.plain rfl (ru_load1 rfl rfl (by assumption))) ?_
    refine RG.S0 (LT.plain rfl (rt_conv_to rfl (fun w => run_convi w CInt.ok CInt.ok _ _) (vint e4))) ?_
    refine RG.S0 (LT.plain rfl (rt_assign rfl)) ?_
    refine RG.nil (by kernel_rfl) ?_
    refine WpD.cut (α := Unit) (fun _ => ⟨[(0, .own 1000 0 m.length cap), (1, .one (ex (.int .i64 (s : Int)))), (4, .one (ex (.int .i64 (k : Int)))), (5, .one (ex (.int .u64 ((x + B * y : Nat) : Int)))), (7, .one (ex (.int .i64 (m.length : Int)))), (8, .one (ex (.int .i64 (k : Int))))], [(1000, (N ++ (m.drop k ++ Z)).map lb)]⟩) ?_ ?_
    · by_cases hk1 : k + 1 < m.length
      · have b2 : decide (((k + 1 : Nat) : Int) < (m.length : Int)) = true := decide_eq_true (by omega)
        have hy' : m[k + 1]? = some y := by rw [← hy, List.getElem?_eq_getElem hk1]; rfl
        have hget1 : ((N ++ (m.drop k ++ Z)).map lb)[k + 1]? = some (lb y) := by
          refine getL ?_
          rw [List.getElem?_append_right (by omega), hNl, show k + 1 - k = 1 by omega, hdr]
          rw [List.cons_append, List.getElem?_cons_succ, List.getElem?_append_left (by simp; omega), List.getElem?_drop, Nat.add_zero]; exact hy'
        have e6 : IntKind.u64.wrap (y : Int) = (y : Int) := wu64 (by omega) (by rw [B_def] at hyB; omega)
        have e7 : IntKind.u64.wrap ((y : Int) * 2 ^ (min (32 : Int).toNat IntKind.u64.bits)) = ((2 ^ 32 * y : Nat) : Int) := by
          show IntKind.u64.wrap ((y : Int) * 2 ^ 32) = _
          rw [B_def] at hyB
          rw [wu64 (by omega) (by omega)]; omega
        have e8 := or_add (a := x) (b := y) (j := 32) hxB (by rw [B_def] at hyB; omega) (by omega)
        repeat (first | refine WpD.seq ?_ | refine WpD.block ?_)
        refine WpD.reg ?_
        refine RG.S0 (LT.plain rfl (rt_move rfl)) ?_
        refine RG.S0 (LT.plain rfl (rt_bin_to rfl rfl (fun w => run_addi w _ _ _ _ _ _) (vint e1))) ?_
        refine RG.S0 (LT.plain rfl (rt_move rfl)) ?_
        refine RG.S0 (LT.plain rfl (ru_lenO rfl CSlice.ok)) ?_
        refine RG.S0 (LT.plain rfl (rt_bin_to rfl rfl (fun w => run_lti w _ _ _ _ _ _) (vbool b2))) ?_
        refine RG.nil (by kernel_rfl) ?_
        repeat (first | refine WpD.seq ?_ | refine WpD.block ?_)
        refine WpD.condT rfl ?_
        repeat (first | refine WpD.seq ?_ | refine WpD.block ?_)
        refine WpD.reg ?_
        refine RG.S0 (LT.plain rfl (rt_move rfl)) ?_
        refine RG.S0 (LT.plain rfl (rt_move rfl)) ?_
        refine RG.S0 (LT.plain rfl (rt_move rfl)) ?_
        refine RG.S0 (LT.plain rfl (rt_bin_to rfl rfl (fun w => run_addi w _ _ _ _ _ _) (vint e1))) ?_
        refine RG.S0 (LT.plain rfl (ru_index0 rfl rfl (by assumption))) ?_
        refine RG.S0 (LT.plain rfl (ru_load1 rfl rfl (by assumption))) ?_
        refine RG.S0 (LT.plain rfl (rt_conv_to rfl (fun w => run_convi w CInt.ok CInt.ok _ _) (vint e6))) ?_
        refine RG.S0 (LT.plain rfl (rt_bin_to rfl rfl (fun w => run_shli w _ _ _ _ _ _ _ (by first | decide | omega | assumption)) (vint e7))) ?_
        refine RG.S0 (LT.plain rfl (rt_bin_to rfl rfl (fun w => run_ori w _ _ _ _ _ _) (vint e8))) ?_
        refine RG.S0 (LT.plain rfl (rt_assign rfl)) ?_
        refine RG.nil (by kernel_rfl) ?_
        refine ⟨(), ?_⟩
        refine Sub.mk ?_ ?_
        · repeat (first | exact trivial | refine ⟨⟨_, rfl, ⟨rfl, rfl⟩⟩, Option.some_ne_none _, ?_⟩ | refine ⟨⟨_, rfl, ⟨rfl, rfl, rfl, rfl⟩⟩, Option.some_ne_none _, ?_⟩ | refine ⟨⟨_, rfl, PLe.refl _⟩, trivial, ?_⟩)
        · repeat (first | exact trivial | refine ⟨⟨_, rfl, PsLe.refl _⟩, ?_⟩)
      · have b2 : decide (((k + 1 : Nat) : Int) < (m.length : Int)) = false := decide_eq_false (by omega)
        have hy0 : y = 0 := by rw [← hy, List.getElem?_eq_none (by omega)]; rfl
        subst hy0
        repeat (first | refine WpD.seq ?_ | refine WpD.block ?_)
        refine WpD.reg ?_
        refine RG.S0 (LT.plain rfl (rt_move rfl)) ?_
        refine RG.S0 (LT.plain rfl (rt_bin_to rfl rfl (fun w => run_addi w _ _ _ _ _ _) (vint e1))) ?_
        refine RG.S0 (LT.plain rfl (rt_move rfl)) ?_
        refine RG.S0 (LT.plain rfl (ru_lenO rfl CSlice.ok)) ?_
        refine RG.S0 (LT.plain rfl (rt_bin_to rfl rfl (fun w => run_lti w _ _ _ _ _ _) (vbool b2))) ?_
        refine RG.nil (by kernel_rfl) ?_
        repeat (first | refine WpD.seq ?_ | refine WpD.block ?_)
        refine WpD.condF rfl ?_
        repeat (first | refine WpD.seq ?_ | refine WpD.block ?_)
        refine WpD.skip ?_
        refine ⟨(), ?_⟩
        refine Sub.mk ?_ ?_
        · repeat (first | exact trivial | refine ⟨⟨_, rfl, ⟨rfl, rfl⟩⟩, Option.some_ne_none _, ?_⟩ | refine ⟨⟨_, rfl, ⟨rfl, rfl, rfl, rfl⟩⟩, Option.some_ne_none _, ?_⟩ | refine ⟨⟨_, rfl, PLe.refl _⟩, trivial, ?_⟩)
        · repeat (first | exact trivial | refine ⟨⟨_, rfl, PsLe.refl _⟩, ?_⟩)
    · rintro ⟨⟩
      have e5 : ((x + B * y : Nat) : Int).fdiv (2 ^ (min ((s : Int)).toNat IntKind.u64.bits)) = (q : Int) := by
        rw [Int.toNat_natCast, show min s IntKind.u64.bits = s from Nat.min_eq_left (by show s ≤ 64; omega)]
        rw [Int.fdiv_eq_ediv_of_nonneg _ (by exact_mod_cast Nat.zero_le _), ← hq]
        norm_cast
      rw [hq] at hI'
      repeat (first | refine WpD.seq ?_ | refine WpD.block ?_)
      refine WpD.reg ?_
      refine RG.S0 (LT.plain rfl (rt_move rfl)) ?_
      refine RG.S0 (LT.plain rfl (rt_move rfl)) ?_
      refine RG.S0 (LT.plain rfl (rt_move rfl)) ?_
      refine RG.S0 (LT.plain rfl (rt_move rfl)) ?_
      refine RG.S0 (LT.plain rfl (rt_bin_to rfl rfl (fun w => run_shri w _ _ _ _ _ _ _ (by first | decide | omega | assumption)) (vint e5))) ?_
      refine RG.S0 (LT.plain rfl (rt_conv_to rfl (fun w => run_convi w CInt.ok CInt.ok _ _) (vint (u32w _)))) ?_
      refine RG.S0 (LT.plain rfl (ru_index0 rfl rfl (by assumption))) ?_
      refine RG.N1 (LT.plain rfl (ru_set1 rfl rfl rfl (by assumption) (by assumption))) ?_
      refine RG.nil (by kernel_rfl) ?_
      repeat (first | refine WpD.seq ?_ | refine WpD.block ?_)
      refine WpD.reg ?_
      refine RG.S0 (LT.plain rfl (rt_bin_to rfl rfl (fun w => run_addi w _ _ _ _ _ _) (vint e1))) ?_
      refine RG.S0 (LT.plain rfl (rt_move rfl)) ?_
      refine RG.nil (by kernel_rfl) ?_
      refine ⟨⟨(k + 1, N ++ [q % B]), hlt, hI'⟩, ?_, by simp only; omega⟩
      refine Sub.mk ?_ ?_
      · repeat (first | exact trivial | refine ⟨⟨_, rfl, ⟨rfl, rfl⟩⟩, Option.some_ne_none _, ?_⟩ | refine ⟨⟨_, rfl, ⟨rfl, rfl, rfl, rfl⟩⟩, Option.some_ne_none _, ?_⟩ | refine ⟨⟨_, rfl, PLe.refl _⟩, trivial, ?_⟩)
      · repeat (first | exact trivial | refine ⟨⟨_, rfl, PsLe.refl _⟩, ?_⟩)
  · have b1 : decide ((k : Int) < (m.length : Int)) = false := decide_eq_false (by omega)
    have hkm : k = m.length := by omega
    subst hkm
    have hd := hI.done
    subst hd
    rw [List.drop_length, List.nil_append]
    repeat (first | refine WpD.seq ?_ | refine WpD.block ?_)
    refine WpD.reg ?_
    refine RG.S0 (LT.plain rfl (rt_bin_to rfl rfl (fun w => run_lti w _ _ _ _ _ _) (vbool b1))) ?_
    refine RG.nil (by kernel_rfl) ?_
    repeat (first | refine WpD.seq ?_ | refine WpD.block ?_)
    refine WpD.condF rfl ?_
    repeat (first | refine WpD.seq ?_ | refine WpD.block ?_)
    refine WpD.exit ?_
    exact retG0 rfl ⟨⟨_, rfl, PsLe.refl _⟩, trivial⟩
end
end Go.Proofs.YtnhbdldchoepfaaDoor

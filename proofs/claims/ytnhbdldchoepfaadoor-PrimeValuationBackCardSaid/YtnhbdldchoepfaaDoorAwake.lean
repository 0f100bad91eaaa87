import Derived.Test.YtnhbdldchoepfaaDoorDisc
import Derived.Deep.QuietTactic
import Derived.BigQuiet
set_option maxRecDepth 3000
namespace Go.Proofs.YtnhbdldchoepfaaDoor
open Go.RowKit Num

theorem sfS_bound {n : Int} (h0 : n ≠ 0) (hn : InR n) : -2147483647 ≤ sfS n ∧ sfS n ≤ 2147483647 := by
  have := (sf_ok n h0).bound
  unfold InR at hn
  omega

set_option maxHeartbeats 1000000 in
theorem disc_any (n : Int) (w : World) (h0 : n ≠ 0) (hn : InR n) (ht : Tab w) :
    Calls Tryd.prog 24 #[.int .i64 n] w fun e w' => e = .returned (.tuple #[.int .i64 (disc n), .int .i64 0]) ∧ Below w.heap.size w w' := by
  obtain ⟨b1, b2⟩ := sfS_bound h0 hn
  have C := Lib.hid (sqf_any n w h0 hn ht)
  obtain ⟨s, hs⟩ : ∃ s, sfS n = s := ⟨_, rfl⟩
  have HD : Hid (disc n = if s % 4 = 1 then s else 4 * s) := by show disc n = _; unfold disc; rw [hs]
  rw [hs] at b1 b2 C
  clear hs
  by_cases h4 : s % 4 = 1
  · have hb : (s % 4 == 1) = true := by rw [beq_iff_eq]; exact h4
    rw [if_pos h4] at HD
    clear h4
    go_enter Tryd.func24, Tryd.ntmps24
    go_wp2_with (first | (go_at_call 49; refine C.out.mono ?_; rintro e w1 ⟨rfl, hbel⟩; have HB := Lib.hid hbel; clear hbel) | (go_at_call 47; refine (residue_any _ _ _ (by omega) (by omega)).mono ?_; rintro e w' ⟨rfl, rfl⟩))
    go_ret2
    exact ⟨by rw [HD.out]; rfl, HB.out⟩
  · have hb : (s % 4 == 1) = false := by rw [beq_eq_false_iff_ne]; exact h4
    rw [if_neg h4] at HD
    clear h4
    go_enter Tryd.func24, Tryd.ntmps24
    go_wp2_with (first | (go_at_call 49; refine C.out.mono ?_; rintro e w1 ⟨rfl, hbel⟩; have HB := Lib.hid hbel; clear hbel) | (go_at_call 47; refine (residue_any _ _ _ (by omega) (by omega)).mono ?_; rintro e w' ⟨rfl, rfl⟩))
    go_ret2
    exact ⟨by rw [HD.out]; rfl, HB.out⟩
theorem disc_out (n : Int) (w : World) (h : n = 0 ∨ ¬ InR n) :
    Calls Tryd.prog 24 #[.int .i64 n] w fun e w' => e = .returned (.tuple #[.int .i64 0, .int .i64 1]) ∧ w = w' := by
  have C := Lib.hid (sqf_out n w h)
  clear h
  go_enter Tryd.func24, Tryd.ntmps24
  go_wp2_with (go_at_call 49; refine C.out.mono ?_; rintro e w1 ⟨rfl, rfl⟩)
  go_ret2
  exact ⟨rfl, rfl⟩
/-! ### The examples that each statement runs -/
theorem pw360 : pw 360 = [(2, 3), (3, 2), (5, 1)] := by decide +kernel
theorem kr56 : krZ 5 6 = 1 := by decide +kernel
theorem disc12 : disc (-12) = -3 := by decide +kernel
theorem isP7 : isP 7 = true := by decide +kernel
theorem isP9 : isP 9 = false := by decide +kernel

set_option maxHeartbeats 2000000 in
theorem awake_any (w : World) (ht : Tab w) :
    Calls Tryd.prog 8 #[] w fun e w' => e = .returned (.bool true) ∧ Below w.heap.size w w' := by
  have cF := factor_any 360 w (by omega) (by omega) ht
  unfold FactorPost at cF
  rw [pw360] at cF
  have CF := Lib.hid cF
  clear cF
  have HT := Lib.hid ht
  clear ht
  go_enter Tryd.func8, Tryd.ntmps8
  go_wp2_with fail
  refine CF.out.mono ?_
  rintro e w1 ⟨v, rfl, hown, hb1⟩
  have ht1 := HT.out.below hb1
  obtain ⟨b, off, cap, hv, hblt, c1, c2⟩ := (Rd.of_owns hown).pow (i := 0) (p := 2) (e := 3) rfl
  subst hv
  simp only [Nat.zero_mul, Nat.add_zero] at c1 c2
  have HB1 := Lib.hid hb1
  have HT1 := Lib.hid ht1
  clear hown hb1 ht1
  go_wp2_with fail
  refine (kron_any 5 6 _ (by unfold InR; omega) (by unfold InR; omega)).mono ?_
  rintro e w' ⟨rfl, rfl⟩
  rw [kr56]
  go_wp2_with fail
  refine (disc_any (-12) _ (by decide) (by unfold InR; omega) HT1.out).mono ?_
  rintro e w2 ⟨rfl, hb2⟩
  rw [disc12]
  have HT2 := Lib.hid (HT1.out.below hb2)
  have d1 := (hb2.cell (p := ⟨b, off, none⟩) hblt).trans c1
  have d2 := (hb2.cell (p := ⟨b, off + 1, none⟩) hblt).trans c2
  have HB2 := Lib.hid (below_two HB1.out hb2)
  clear hb2 c1 c2
  go_wp2_with fail
  refine (is_any 7 _ HT2.out).mono ?_
  rintro e w' ⟨rfl, rfl⟩
  rw [show (7 : Int).toNat = 7 from rfl, isP7]
  go_wp2_with fail
  refine (is_any 9 _ HT2.out).mono ?_
  rintro e w' ⟨rfl, rfl⟩
  rw [show (9 : Int).toNat = 9 from rfl, isP9]
  go_wp2_with fail
  go_ret
  exact ⟨rfl, HB2.out⟩
end Go.Proofs.YtnhbdldchoepfaaDoor

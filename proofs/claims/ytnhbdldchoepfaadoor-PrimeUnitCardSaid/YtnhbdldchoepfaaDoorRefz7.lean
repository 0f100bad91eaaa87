import Derived.Test.YtnhbdldchoepfaaDoorRefz6
namespace Go.Proofs.YtnhbdldchoepfaaDoor
open Go.RowKit Limb
/-- Quotient and rest, as new lists of digits. -/
def DivPost (x y : Nat) (w : World) (e : Ending) (w' : World) : Prop :=
  ∃ a n cap a' n' cap', e = .returned (.tuple #[.slice a n cap, .slice a' n' cap']) ∧ Mg w' (.slice a n cap) (digs (x / y)) ∧ Mg w' (.slice a' n' cap') (digs (x % y)) ∧ n = (digs (x / y)).length ∧ n' = (digs (x % y)).length ∧ Fr w.heap.size a ∧ Fr w.heap.size a' ∧ Below w.heap.size w w'
/-- What divide is asked. -/
def DivOK (x y : Nat) : Prop := ∀ (W : World) (v1 v2 : Value), Mg W v1 (digs x) → Mg W v2 (digs y) → Calls Tryd.prog 67 #[v1, v2] W (DivPost x y W)
theorem val_two_lt {l : List Nat} (h : Lm l) (hl : l.length ≤ 2) : val l < 18446744073709551616 := by
  have h1 := val_lt h
  have : B ^ l.length ≤ B ^ 2 := Nat.pow_le_pow_right B_pos hl
  have e : B ^ 2 = 18446744073709551616 := by decide
  omega
theorem run_mag (s : Bool) (a : Option Addr) (n cap : Nat) (w : World) : Sem.run Tryd.prog (Instr.field 24 (.agg #[.bool s, .slice a n cap]) 1) w = .ok (.slice a n cap) w := by kernel_rfl
attribute [local go_sem] run_mag
set_option maxHeartbeats 4000000 in
theorem zdivide_small (x y : Nat) (hy : y ≠ 0) (hx2 : (digs x).length ≤ 2) (hy2 : (digs y).length ≤ 2) : DivOK x y := by
  intro w v1 v2 h1 h2
  have hyi : ((y : Int) == 0) = false := by rw [beq_eq_false_iff_ne]; omega
  have hx2i : ((digs x).length : Int) ≤ 2 := by omega
  have hy2i : ((digs y).length : Int) ≤ 2 := by omega
  have hypos : (0 : Int) < (y : Int) := by omega
  have bx := val_two_lt (lm_digs x) hx2
  have by' := val_two_lt (lm_digs y) hy2
  rw [val_digs] at bx by'
  have L1 := Lib.hid (zlow_any v1 _ w h1 hx2)
  have L2 := Lib.hid (zlow_any v2 _ w h2 hy2)
  rw [val_digs] at L1 L2
  have hq : x / y < 18446744073709551616 := Nat.lt_of_le_of_lt (Nat.div_le_self _ _) bx
  have hr : x % y < 18446744073709551616 := Nat.lt_of_le_of_lt (Nat.mod_le _ _) bx
  have W1 : Hid (∀ W (z : Int), z = ((x / y : Nat) : Int) → Calls Tryd.prog 58 #[.bool false, .int .u64 z] W (ZPost ((x / y : Nat) : Int) W)) := Lib.hid (fun W z hz => by rw [hz]; exact zword_any false (x / y) W ((x / y : Nat) : Int) hq rfl)
  have W2 : Hid (∀ W (z : Int), z = ((x % y : Nat) : Int) → Calls Tryd.prog 58 #[.bool false, .int .u64 z] W (ZPost ((x % y : Nat) : Int) W)) := Lib.hid (fun W z hz => by rw [hz]; exact zword_any false (x % y) W ((x % y : Nat) : Int) hr rfl)
  have e1 : Hid (IntKind.u64.wrap ((x : Int) / (y : Int)) = ((x / y : Nat) : Int)) := by
    show _ = _
    rw [← Int.natCast_ediv]
    exact IntWalk.u64_in _ ⟨Int.natCast_nonneg _, by omega⟩
  have e2 : Hid (IntKind.u64.wrap ((x : Int) % (y : Int)) = ((x % y : Nat) : Int)) := by
    show _ = _
    rw [← Int.natCast_emod]
    exact IntWalk.u64_in _ ⟨Int.natCast_nonneg _, by omega⟩
  have HB0 := Lib.hid (Below.refl w.heap.size w)
  obtain ⟨a1, cap1, rfl, qa1, qa2, qa3, qa4⟩ := h1.form
  clear qa1 qa2 qa3 qa4
  obtain ⟨a2, cap2, rfl, qa1, qa2, qa3, qa4⟩ := h2.form
  clear qa1 qa2 qa3 qa4
  clear h1 h2
  have tok1 : True := trivial
  go_enter Tryd.func67, Tryd.ntmps67
  go_wp2_with (first | (go_at_call 65; have _t := tok1; clear tok1; refine L1.out.mono ?_; rintro e w' ⟨rfl, rfl⟩) | (go_at_call 65; refine L2.out.mono ?_; rintro e w' ⟨rfl, rfl⟩))
  have tok1 : True := trivial
  go_region_held3 (fun W => True) (((try dsimp only); (repeat' apply And.intro) <;> (first | assumption | go_keep | (go_split_ands; (repeat (first | rw [cs_other (by first | omega | (simp; done) | (simp; omega))] | rw [ca_past (by first | omega | (simp; done) | (simp; omega))] | rw [ca_drew])); assumption))))
    (first | (go_at_call 58; have _t := tok1; clear tok1; refine (W1.out _ _ ?_).mono ?_; exact e1.out; rintro e w1 ⟨s1, a1, n1, cap1, rfl, hz1, hfr1, hb1⟩; have HZ1 := Lib.hid hz1; have HFr1 := Lib.hid hfr1; clear hz1 hfr1; obtain ⟨hc1, hf1⟩ := bcell hb1; have hs1 := hb1.size; (try simp at hs1); have HB1 := Lib.hid (below_call HB0.out.drew hb1 (by first | omega | (simp; done) | (simp; omega))); clear hc1 hf1) | (go_at_call 58; refine (W2.out _ _ ?_).mono ?_; exact (by rw [Int.natCast_emod]; exact Int.tmod_eq_emod_of_nonneg (Int.natCast_nonneg _)); rintro e w2 ⟨s2, a2, n2, cap2, rfl, hz2, hfr2, hb2⟩; have HZ2 := Lib.hid hz2; have HFr2 := Lib.hid hfr2; clear hz2 hfr2; obtain ⟨hc2, hf2⟩ := bcell hb2; have hs2 := hb2.size; (try simp at hs2); have HB2 := Lib.hid (below_call HB1.out hb2 (by first | omega | (simp; done) | (simp; omega))); clear hc2 hf2))
  go_wp2
  go_ret2
  refine ⟨_, _, _, _, _, _, rfl, HZ1.out.2.2.below hb2, HZ2.out.2.2, HZ1.out.2.1, HZ2.out.2.1, HFr1.out.mono (by first | omega | (simp; done) | (simp; omega)), HFr2.out.mono (by first | omega | (simp; done) | (simp; omega)), HB2.out⟩
end Go.Proofs.YtnhbdldchoepfaaDoor

/- Legal constituents: the program's and the reference's. -/
import Derived.Test.YtdieokoenhncfaaGreatDoorTi
import Derived.Deep.QuietTactic
import Derived.BigQuiet
set_option maxRecDepth 3000
namespace Go.Proofs.YtdieokoenhncfaaGreatDoor
open Go.RowKit Limb Num
def legP (c : Co) : Prop := 0 ≤ c.e ∧ c.e ≤ 60 ∧ 1 ≤ c.d ∧ c.d ≤ 8 ∧ (c.s = 1 ∨ c.s = -1) ∧ 0 ≤ c.y ∧ c.y ≤ 7 ∧
 (if c.o = true then (c.y - c.d) % 2 = 0 ∧ (c.d = 1 ∧ c.s = 1 → c.y = 1 ∨ c.y = 7) ∧ (c.d = 1 ∧ c.s = -1 → c.y = 3 ∨ c.y = 5) ∧ (c.d = 2 ∧ c.s = 1 → c.y ≠ 4) ∧ (c.d = 2 ∧ c.s = -1 → c.y ≠ 0) else c.d % 2 = 0 ∧ c.y = 0)
instance (c : Co) : Decidable (legP c) := by unfold legP; infer_instance
set_option maxHeartbeats 4000000 in
theorem legal_any (e d s y : Int) (o : Bool) (w : World) :
  Calls Tryz.prog 95 #[.agg #[.int .i64 e, .int .i64 d, .int .i64 s, .bool o, .int .i64 y]] w fun r w' => r = .returned (.bool (decide (legP ⟨e, d, s, o, y⟩))) ∧ Below w.heap.size w w' := by
 by_cases h1 : e < 0
 ·have HD := Lib.hid (show decide (legP ⟨e, d, s, o, y⟩) = false from decide_eq_false (by unfold legP; dsimp only; omega))
  go_enter Tryz.func95, Tryz.ntmps95
  go_wp2_with fail
  go_ret
  exact ⟨by rw [HD.out]; first | rfl | exact ret_bool (beq_eq_false_iff_ne.2 (by assumption)) | exact ret_bool (bne_iff_ne.2 (by assumption)) | exact ret_bool (Bool.or_eq_false_iff.2 ⟨beq_eq_false_iff_ne.2 (by assumption), beq_eq_false_iff_ne.2 (by assumption)⟩), (Below.refl _ _).alloc (Nat.le_refl _) _⟩
 by_cases h2 : 60 < e
 ·have HD := Lib.hid (show decide (legP ⟨e, d, s, o, y⟩) = false from decide_eq_false (by unfold legP; dsimp only; omega))
  go_enter Tryz.func95, Tryz.ntmps95
  go_wp2_with fail
  go_ret
  exact ⟨by rw [HD.out]; first | rfl | exact ret_bool (beq_eq_false_iff_ne.2 (by assumption)) | exact ret_bool (bne_iff_ne.2 (by assumption)) | exact ret_bool (Bool.or_eq_false_iff.2 ⟨beq_eq_false_iff_ne.2 (by assumption), beq_eq_false_iff_ne.2 (by assumption)⟩), (Below.refl _ _).alloc (Nat.le_refl _) _⟩
 by_cases h3 : d < 1
 ·have HD := Lib.hid (show decide (legP ⟨e, d, s, o, y⟩) = false from decide_eq_false (by unfold legP; dsimp only; omega))
  go_enter Tryz.func95, Tryz.ntmps95
  go_wp2_with fail
  go_ret
  exact ⟨by rw [HD.out]; first | rfl | exact ret_bool (beq_eq_false_iff_ne.2 (by assumption)) | exact ret_bool (bne_iff_ne.2 (by assumption)) | exact ret_bool (Bool.or_eq_false_iff.2 ⟨beq_eq_false_iff_ne.2 (by assumption), beq_eq_false_iff_ne.2 (by assumption)⟩), (Below.refl _ _).alloc (Nat.le_refl _) _⟩
 by_cases h4 : 8 < d
 ·have HD := Lib.hid (show decide (legP ⟨e, d, s, o, y⟩) = false from decide_eq_false (by unfold legP; dsimp only; omega))
  go_enter Tryz.func95, Tryz.ntmps95
  go_wp2_with fail
  go_ret
  exact ⟨by rw [HD.out]; first | rfl | exact ret_bool (beq_eq_false_iff_ne.2 (by assumption)) | exact ret_bool (bne_iff_ne.2 (by assumption)) | exact ret_bool (Bool.or_eq_false_iff.2 ⟨beq_eq_false_iff_ne.2 (by assumption), beq_eq_false_iff_ne.2 (by assumption)⟩), (Below.refl _ _).alloc (Nat.le_refl _) _⟩
 have hs : s = 1 ∨ s = -1 ∨ (s ≠ 1 ∧ s ≠ -1) := by omega
 rcases hs with rfl | rfl | ⟨s1, s2⟩
 ·by_cases h5 : y < 0
  ·have HD := Lib.hid (show decide (legP ⟨e, d, 1, o, y⟩) = false from decide_eq_false (by unfold legP; dsimp only; omega))
   go_enter Tryz.func95, Tryz.ntmps95
   go_wp2_with fail
   go_ret
   exact ⟨by rw [HD.out]; first | rfl | exact ret_bool (beq_eq_false_iff_ne.2 (by assumption)) | exact ret_bool (bne_iff_ne.2 (by assumption)) | exact ret_bool (Bool.or_eq_false_iff.2 ⟨beq_eq_false_iff_ne.2 (by assumption), beq_eq_false_iff_ne.2 (by assumption)⟩), (Below.refl _ _).alloc (Nat.le_refl _) _⟩
  by_cases h6 : 7 < y
  ·have HD := Lib.hid (show decide (legP ⟨e, d, 1, o, y⟩) = false from decide_eq_false (by unfold legP; dsimp only; omega))
   go_enter Tryz.func95, Tryz.ntmps95
   go_wp2_with fail
   go_ret
   exact ⟨by rw [HD.out]; first | rfl | exact ret_bool (beq_eq_false_iff_ne.2 (by assumption)) | exact ret_bool (bne_iff_ne.2 (by assumption)) | exact ret_bool (Bool.or_eq_false_iff.2 ⟨beq_eq_false_iff_ne.2 (by assumption), beq_eq_false_iff_ne.2 (by assumption)⟩), (Below.refl _ _).alloc (Nat.le_refl _) _⟩
  cases o with
  | false =>
   by_cases p : d % 2 = 0
   ·have hp : (d.tmod 2 == 0) = true := by rw [Int.tmod_eq_emod_of_nonneg (by omega), p]; rfl
    by_cases q : y = 0
    ·subst q
     have HD := Lib.hid (show decide (legP ⟨e, d, 1, false, 0⟩) = true from decide_eq_true (by unfold legP; simp <;> omega))
     go_enter Tryz.func95, Tryz.ntmps95
     go_wp2_with fail
     go_ret
     exact ⟨by rw [HD.out]; first | rfl | exact ret_bool (beq_eq_false_iff_ne.2 (by assumption)) | exact ret_bool (bne_iff_ne.2 (by assumption)) | exact ret_bool (Bool.or_eq_false_iff.2 ⟨beq_eq_false_iff_ne.2 (by assumption), beq_eq_false_iff_ne.2 (by assumption)⟩), (Below.refl _ _).alloc (Nat.le_refl _) _⟩
    have HD := Lib.hid (show decide (legP ⟨e, d, 1, false, y⟩) = false from decide_eq_false (by unfold legP; simp <;> omega))
    go_enter Tryz.func95, Tryz.ntmps95
    go_wp2_with fail
    go_ret
    exact ⟨by rw [HD.out]; first | rfl | exact ret_bool (beq_eq_false_iff_ne.2 (by assumption)) | exact ret_bool (bne_iff_ne.2 (by assumption)) | exact ret_bool (Bool.or_eq_false_iff.2 ⟨beq_eq_false_iff_ne.2 (by assumption), beq_eq_false_iff_ne.2 (by assumption)⟩), (Below.refl _ _).alloc (Nat.le_refl _) _⟩
   ·have hp : (d.tmod 2 == 0) = false := by rw [Int.tmod_eq_emod_of_nonneg (by omega)]; exact beq_eq_false_iff_ne.2 p
    have HD := Lib.hid (show decide (legP ⟨e, d, 1, false, y⟩) = false from decide_eq_false (by unfold legP; simp <;> omega))
    go_enter Tryz.func95, Tryz.ntmps95
    go_wp2_with fail
    go_ret
    exact ⟨by rw [HD.out]; first | rfl | exact ret_bool (beq_eq_false_iff_ne.2 (by assumption)) | exact ret_bool (bne_iff_ne.2 (by assumption)) | exact ret_bool (Bool.or_eq_false_iff.2 ⟨beq_eq_false_iff_ne.2 (by assumption), beq_eq_false_iff_ne.2 (by assumption)⟩), (Below.refl _ _).alloc (Nat.le_refl _) _⟩
  | true =>
   by_cases p : (y - d) % 2 = 0
   ·have hp : ((y - d).tmod 2 != 0) = false := by rw [tm2]; exact decide_eq_false (fun h => h p)
    by_cases d1 : d = 1
    ·subst d1
     by_cases y1 : y = 1
     ·subst y1
      have HD := Lib.hid (show decide (legP ⟨e, 1, 1, true, 1⟩) = true from decide_eq_true (by unfold legP; simp <;> omega))
      go_enter Tryz.func95, Tryz.ntmps95
      go_wp2_with fail
      go_ret
      exact ⟨by rw [HD.out]; first | rfl | exact ret_bool (beq_eq_false_iff_ne.2 (by assumption)) | exact ret_bool (bne_iff_ne.2 (by assumption)) | exact ret_bool (Bool.or_eq_false_iff.2 ⟨beq_eq_false_iff_ne.2 (by assumption), beq_eq_false_iff_ne.2 (by assumption)⟩), (Below.refl _ _).alloc (Nat.le_refl _) _⟩
     by_cases y7 : y = 7
     ·subst y7
      have HD := Lib.hid (show decide (legP ⟨e, 1, 1, true, 7⟩) = true from decide_eq_true (by unfold legP; simp <;> omega))
      go_enter Tryz.func95, Tryz.ntmps95
      go_wp2_with fail
      go_ret
      exact ⟨by rw [HD.out]; first | rfl | exact ret_bool (beq_eq_false_iff_ne.2 (by assumption)) | exact ret_bool (bne_iff_ne.2 (by assumption)) | exact ret_bool (Bool.or_eq_false_iff.2 ⟨beq_eq_false_iff_ne.2 (by assumption), beq_eq_false_iff_ne.2 (by assumption)⟩), (Below.refl _ _).alloc (Nat.le_refl _) _⟩
     have HD := Lib.hid (show decide (legP ⟨e, 1, 1, true, y⟩) = false from decide_eq_false (by unfold legP; simp <;> omega))
     go_enter Tryz.func95, Tryz.ntmps95
     go_wp2_with fail
     go_ret
     exact ⟨by rw [HD.out]; first | rfl | exact ret_bool (beq_eq_false_iff_ne.2 (by assumption)) | exact ret_bool (bne_iff_ne.2 (by assumption)) | exact ret_bool (Bool.or_eq_false_iff.2 ⟨beq_eq_false_iff_ne.2 (by assumption), beq_eq_false_iff_ne.2 (by assumption)⟩), (Below.refl _ _).alloc (Nat.le_refl _) _⟩
    by_cases d2 : d = 2
    ·subst d2
     by_cases y4 : y = 4
     ·subst y4
      have HD := Lib.hid (show decide (legP ⟨e, 2, 1, true, 4⟩) = false from decide_eq_false (by unfold legP; simp <;> omega))
      go_enter Tryz.func95, Tryz.ntmps95
      go_wp2_with fail
      go_ret
      exact ⟨by rw [HD.out]; first | rfl | exact ret_bool (beq_eq_false_iff_ne.2 (by assumption)) | exact ret_bool (bne_iff_ne.2 (by assumption)) | exact ret_bool (Bool.or_eq_false_iff.2 ⟨beq_eq_false_iff_ne.2 (by assumption), beq_eq_false_iff_ne.2 (by assumption)⟩), (Below.refl _ _).alloc (Nat.le_refl _) _⟩
     have HD := Lib.hid (show decide (legP ⟨e, 2, 1, true, y⟩) = true from decide_eq_true (by unfold legP; simp <;> omega))
     go_enter Tryz.func95, Tryz.ntmps95
     go_wp2_with fail
     go_ret
     exact ⟨by rw [HD.out]; first | rfl | exact ret_bool (beq_eq_false_iff_ne.2 (by assumption)) | exact ret_bool (bne_iff_ne.2 (by assumption)) | exact ret_bool (Bool.or_eq_false_iff.2 ⟨beq_eq_false_iff_ne.2 (by assumption), beq_eq_false_iff_ne.2 (by assumption)⟩), (Below.refl _ _).alloc (Nat.le_refl _) _⟩
    have HD := Lib.hid (show decide (legP ⟨e, d, 1, true, y⟩) = true from decide_eq_true (by unfold legP; simp <;> omega))
    go_enter Tryz.func95, Tryz.ntmps95
    go_wp2_with fail
    go_ret
    exact ⟨by rw [HD.out]; first | rfl | exact ret_bool (beq_eq_false_iff_ne.2 (by assumption)) | exact ret_bool (bne_iff_ne.2 (by assumption)) | exact ret_bool (Bool.or_eq_false_iff.2 ⟨beq_eq_false_iff_ne.2 (by assumption), beq_eq_false_iff_ne.2 (by assumption)⟩), (Below.refl _ _).alloc (Nat.le_refl _) _⟩
   ·have hp : ((y - d).tmod 2 != 0) = true := by rw [tm2]; exact decide_eq_true p
    have HD := Lib.hid (show decide (legP ⟨e, d, 1, true, y⟩) = false from decide_eq_false (by unfold legP; simp <;> omega))
    go_enter Tryz.func95, Tryz.ntmps95
    go_wp2_with fail
    go_ret
    exact ⟨by rw [HD.out]; first | rfl | exact ret_bool (beq_eq_false_iff_ne.2 (by assumption)) | exact ret_bool (bne_iff_ne.2 (by assumption)) | exact ret_bool (Bool.or_eq_false_iff.2 ⟨beq_eq_false_iff_ne.2 (by assumption), beq_eq_false_iff_ne.2 (by assumption)⟩), (Below.refl _ _).alloc (Nat.le_refl _) _⟩
 ·by_cases h5 : y < 0
  ·have HD := Lib.hid (show decide (legP ⟨e, d, (-1), o, y⟩) = false from decide_eq_false (by unfold legP; dsimp only; omega))
   go_enter Tryz.func95, Tryz.ntmps95
   go_wp2_with fail
   go_ret
   exact ⟨by rw [HD.out]; first | rfl | exact ret_bool (beq_eq_false_iff_ne.2 (by assumption)) | exact ret_bool (bne_iff_ne.2 (by assumption)) | exact ret_bool (Bool.or_eq_false_iff.2 ⟨beq_eq_false_iff_ne.2 (by assumption), beq_eq_false_iff_ne.2 (by assumption)⟩), (Below.refl _ _).alloc (Nat.le_refl _) _⟩
  by_cases h6 : 7 < y
  ·have HD := Lib.hid (show decide (legP ⟨e, d, (-1), o, y⟩) = false from decide_eq_false (by unfold legP; dsimp only; omega))
   go_enter Tryz.func95, Tryz.ntmps95
   go_wp2_with fail
   go_ret
   exact ⟨by rw [HD.out]; first | rfl | exact ret_bool (beq_eq_false_iff_ne.2 (by assumption)) | exact ret_bool (bne_iff_ne.2 (by assumption)) | exact ret_bool (Bool.or_eq_false_iff.2 ⟨beq_eq_false_iff_ne.2 (by assumption), beq_eq_false_iff_ne.2 (by assumption)⟩), (Below.refl _ _).alloc (Nat.le_refl _) _⟩
  cases o with
  | false =>
   by_cases p : d % 2 = 0
   ·have hp : (d.tmod 2 == 0) = true := by rw [Int.tmod_eq_emod_of_nonneg (by omega), p]; rfl
    by_cases q : y = 0
    ·subst q
     have HD := Lib.hid (show decide (legP ⟨e, d, (-1), false, 0⟩) = true from decide_eq_true (by unfold legP; simp <;> omega))
     go_enter Tryz.func95, Tryz.ntmps95
     go_wp2_with fail
     go_ret
     exact ⟨by rw [HD.out]; first | rfl | exact ret_bool (beq_eq_false_iff_ne.2 (by assumption)) | exact ret_bool (bne_iff_ne.2 (by assumption)) | exact ret_bool (Bool.or_eq_false_iff.2 ⟨beq_eq_false_iff_ne.2 (by assumption), beq_eq_false_iff_ne.2 (by assumption)⟩), (Below.refl _ _).alloc (Nat.le_refl _) _⟩
    have HD := Lib.hid (show decide (legP ⟨e, d, (-1), false, y⟩) = false from decide_eq_false (by unfold legP; simp <;> omega))
    go_enter Tryz.func95, Tryz.ntmps95
    go_wp2_with fail
    go_ret
    exact ⟨by rw [HD.out]; first | rfl | exact ret_bool (beq_eq_false_iff_ne.2 (by assumption)) | exact ret_bool (bne_iff_ne.2 (by assumption)) | exact ret_bool (Bool.or_eq_false_iff.2 ⟨beq_eq_false_iff_ne.2 (by assumption), beq_eq_false_iff_ne.2 (by assumption)⟩), (Below.refl _ _).alloc (Nat.le_refl _) _⟩
   ·have hp : (d.tmod 2 == 0) = false := by rw [Int.tmod_eq_emod_of_nonneg (by omega)]; exact beq_eq_false_iff_ne.2 p
    have HD := Lib.hid (show decide (legP ⟨e, d, (-1), false, y⟩) = false from decide_eq_false (by unfold legP; simp <;> omega))
    go_enter Tryz.func95, Tryz.ntmps95
    go_wp2_with fail
    go_ret
    exact ⟨by rw [HD.out]; first | rfl | exact ret_bool (beq_eq_false_iff_ne.2 (by assumption)) | exact ret_bool (bne_iff_ne.2 (by assumption)) | exact ret_bool (Bool.or_eq_false_iff.2 ⟨beq_eq_false_iff_ne.2 (by assumption), beq_eq_false_iff_ne.2 (by assumption)⟩), (Below.refl _ _).alloc (Nat.le_refl _) _⟩
  | true =>
   by_cases p : (y - d) % 2 = 0
   ·have hp : ((y - d).tmod 2 != 0) = false := by rw [tm2]; exact decide_eq_false (fun h => h p)
    by_cases d1 : d = 1
    ·subst d1
     by_cases y1 : y = 3
     ·subst y1
      have HD := Lib.hid (show decide (legP ⟨e, 1, (-1), true, 3⟩) = true from decide_eq_true (by unfold legP; simp <;> omega))
      go_enter Tryz.func95, Tryz.ntmps95
      go_wp2_with fail
      go_ret
      exact ⟨by rw [HD.out]; first | rfl | exact ret_bool (beq_eq_false_iff_ne.2 (by assumption)) | exact ret_bool (bne_iff_ne.2 (by assumption)) | exact ret_bool (Bool.or_eq_false_iff.2 ⟨beq_eq_false_iff_ne.2 (by assumption), beq_eq_false_iff_ne.2 (by assumption)⟩), (Below.refl _ _).alloc (Nat.le_refl _) _⟩
     by_cases y7 : y = 5
     ·subst y7
      have HD := Lib.hid (show decide (legP ⟨e, 1, (-1), true, 5⟩) = true from decide_eq_true (by unfold legP; simp <;> omega))
      go_enter Tryz.func95, Tryz.ntmps95
      go_wp2_with fail
      go_ret
      exact ⟨by rw [HD.out]; first | rfl | exact ret_bool (beq_eq_false_iff_ne.2 (by assumption)) | exact ret_bool (bne_iff_ne.2 (by assumption)) | exact ret_bool (Bool.or_eq_false_iff.2 ⟨beq_eq_false_iff_ne.2 (by assumption), beq_eq_false_iff_ne.2 (by assumption)⟩), (Below.refl _ _).alloc (Nat.le_refl _) _⟩
     have HD := Lib.hid (show decide (legP ⟨e, 1, (-1), true, y⟩) = false from decide_eq_false (by unfold legP; simp <;> omega))
     go_enter Tryz.func95, Tryz.ntmps95
     go_wp2_with fail
     go_ret
     exact ⟨by rw [HD.out]; first | rfl | exact ret_bool (beq_eq_false_iff_ne.2 (by assumption)) | exact ret_bool (bne_iff_ne.2 (by assumption)) | exact ret_bool (Bool.or_eq_false_iff.2 ⟨beq_eq_false_iff_ne.2 (by assumption), beq_eq_false_iff_ne.2 (by assumption)⟩), (Below.refl _ _).alloc (Nat.le_refl _) _⟩
    by_cases d2 : d = 2
    ·subst d2
     by_cases y4 : y = 0
     ·subst y4
      have HD := Lib.hid (show decide (legP ⟨e, 2, (-1), true, 0⟩) = false from decide_eq_false (by unfold legP; simp <;> omega))
      go_enter Tryz.func95, Tryz.ntmps95
      go_wp2_with fail
      go_ret
      exact ⟨by rw [HD.out]; first | rfl | exact ret_bool (beq_eq_false_iff_ne.2 (by assumption)) | exact ret_bool (bne_iff_ne.2 (by assumption)) | exact ret_bool (Bool.or_eq_false_iff.2 ⟨beq_eq_false_iff_ne.2 (by assumption), beq_eq_false_iff_ne.2 (by assumption)⟩), (Below.refl _ _).alloc (Nat.le_refl _) _⟩
     have HD := Lib.hid (show decide (legP ⟨e, 2, (-1), true, y⟩) = true from decide_eq_true (by unfold legP; simp <;> omega))
     go_enter Tryz.func95, Tryz.ntmps95
     go_wp2_with fail
     go_ret
     exact ⟨by rw [HD.out]; first | rfl | exact ret_bool (beq_eq_false_iff_ne.2 (by assumption)) | exact ret_bool (bne_iff_ne.2 (by assumption)) | exact ret_bool (Bool.or_eq_false_iff.2 ⟨beq_eq_false_iff_ne.2 (by assumption), beq_eq_false_iff_ne.2 (by assumption)⟩), (Below.refl _ _).alloc (Nat.le_refl _) _⟩
    have HD := Lib.hid (show decide (legP ⟨e, d, (-1), true, y⟩) = true from decide_eq_true (by unfold legP; simp <;> omega))
    go_enter Tryz.func95, Tryz.ntmps95
    go_wp2_with fail
    go_ret
    exact ⟨by rw [HD.out]; first | rfl | exact ret_bool (beq_eq_false_iff_ne.2 (by assumption)) | exact ret_bool (bne_iff_ne.2 (by assumption)) | exact ret_bool (Bool.or_eq_false_iff.2 ⟨beq_eq_false_iff_ne.2 (by assumption), beq_eq_false_iff_ne.2 (by assumption)⟩), (Below.refl _ _).alloc (Nat.le_refl _) _⟩
   ·have hp : ((y - d).tmod 2 != 0) = true := by rw [tm2]; exact decide_eq_true p
    have HD := Lib.hid (show decide (legP ⟨e, d, (-1), true, y⟩) = false from decide_eq_false (by unfold legP; simp <;> omega))
    go_enter Tryz.func95, Tryz.ntmps95
    go_wp2_with fail
    go_ret
    exact ⟨by rw [HD.out]; first | rfl | exact ret_bool (beq_eq_false_iff_ne.2 (by assumption)) | exact ret_bool (bne_iff_ne.2 (by assumption)) | exact ret_bool (Bool.or_eq_false_iff.2 ⟨beq_eq_false_iff_ne.2 (by assumption), beq_eq_false_iff_ne.2 (by assumption)⟩), (Below.refl _ _).alloc (Nat.le_refl _) _⟩
 ·have HD := Lib.hid (show decide (legP ⟨e, d, s, o, y⟩) = false from decide_eq_false (by unfold legP; dsimp only; omega))
  go_enter Tryz.func95, Tryz.ntmps95
  go_wp2_with fail
  go_ret
  exact ⟨by rw [HD.out]; first | rfl | exact ret_bool (beq_eq_false_iff_ne.2 (by assumption)) | exact ret_bool (bne_iff_ne.2 (by assumption)) | exact ret_bool (Bool.or_eq_false_iff.2 ⟨beq_eq_false_iff_ne.2 (by assumption), beq_eq_false_iff_ne.2 (by assumption)⟩), (Below.refl _ _).alloc (Nat.le_refl _) _⟩
section
variable (En : Ev)
theorem tlegal (c : Co) : Fn Tryz.prog En 95 [aggP (coc c)] (ex (.bool (decide (legP c)))) := by
 obtain ⟨e, d, s, o, y⟩ := c
 rintro h w vs _ hh hv
 obtain ⟨v, rfl, us, rfl, ha⟩ := hv.one
 match us, ha with
 | [_, _, _, _, _], ⟨rfl, _, rfl, _, rfl, _, rfl, _, rfl, _, _⟩ => exact (legal_any e d s y o w).mono fun _ _ ⟨he, hb⟩ => by subst he; exact fn_post hh hb rfl
end
end Go.Proofs.YtdieokoenhncfaaGreatDoor

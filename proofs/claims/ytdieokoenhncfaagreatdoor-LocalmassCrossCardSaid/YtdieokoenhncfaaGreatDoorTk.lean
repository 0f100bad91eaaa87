/- Legal constituents: the program's and the reference's. -/
import Derived.Test.YtdieokoenhncfaaGreatDoorTi
import Derived.Deep.QuietTactic
import Derived.BigQuiet
import Derived.Test.YtdieokoenhncfaaGreatDoorMem
import Derived.Test.YtdieokoenhncfaaGreatDoorG
import Derived.Test.YtdieokoenhncfaaGreatDoorMp
set_option maxRecDepth 3000
namespace Go.Proofs.YtdieokoenhncfaaGreatDoor
open Go.RowKit Limb Num
def legP (c : Co) : Prop := 0 ≤ c.e ∧ c.e ≤ 60 ∧ 1 ≤ c.d ∧ c.d ≤ 8 ∧ (c.s = 1 ∨ c.s = -1) ∧ 0 ≤ c.y ∧ c.y ≤ 7 ∧
 (if c.o = true then (c.y - c.d) % 2 = 0 ∧ (c.d = 1 ∧ c.s = 1 → c.y = 1 ∨ c.y = 7) ∧ (c.d = 1 ∧ c.s = -1 → c.y = 3 ∨ c.y = 5) ∧ (c.d = 2 ∧ c.s = 1 → c.y ≠ 4) ∧ (c.d = 2 ∧ c.s = -1 → c.y ≠ 0) else c.d % 2 = 0 ∧ c.y = 0)
instance (c : Co) : Decidable (legP c) := by unfold legP; infer_instance
set_option maxHeartbeats 4000000 in
theorem jZJ (e d s y : Int) (o : Bool) (w : World) :
  Calls Tryz.prog 95 #[.agg #[.int .i64 e, .int .i64 d, .int .i64 s, .bool o, .int .i64 y]] w fun r w' => r = .returned (.bool (decide (legP ⟨e, d, s, o, y⟩))) ∧ Below w.heap.size w w' := by
 by_cases h1 : e < 0
 ·have HD := Lib.hid (show decide (legP ⟨e, d, s, o, y⟩) = false from decide_eq_false (by unfold legP; dsimp only; omega))
  go_enter Tryz.func95, Tryz.ntmps95
  go_wp2_with fail
  go_ret
  exact ⟨by rw [HD.out]; first | rfl | exact aZe (beq_eq_false_iff_ne.2 (by assumption)) | exact aZe (bne_iff_ne.2 (by assumption)) | exact aZe (Bool.or_eq_false_iff.2 ⟨beq_eq_false_iff_ne.2 (by assumption), beq_eq_false_iff_ne.2 (by assumption)⟩), (Below.refl _ _).alloc (Nat.le_refl _) _⟩
 by_cases h2 : 60 < e
 ·have HD := Lib.hid (show decide (legP ⟨e, d, s, o, y⟩) = false from decide_eq_false (by unfold legP; dsimp only; omega))
  go_enter Tryz.func95, Tryz.ntmps95
  go_wp2_with fail
  go_ret
  exact ⟨by rw [HD.out]; first | rfl | exact aZe (beq_eq_false_iff_ne.2 (by assumption)) | exact aZe (bne_iff_ne.2 (by assumption)) | exact aZe (Bool.or_eq_false_iff.2 ⟨beq_eq_false_iff_ne.2 (by assumption), beq_eq_false_iff_ne.2 (by assumption)⟩), (Below.refl _ _).alloc (Nat.le_refl _) _⟩
 by_cases h3 : d < 1
 ·have HD := Lib.hid (show decide (legP ⟨e, d, s, o, y⟩) = false from decide_eq_false (by unfold legP; dsimp only; omega))
  go_enter Tryz.func95, Tryz.ntmps95
  go_wp2_with fail
  go_ret
  exact ⟨by rw [HD.out]; first | rfl | exact aZe (beq_eq_false_iff_ne.2 (by assumption)) | exact aZe (bne_iff_ne.2 (by assumption)) | exact aZe (Bool.or_eq_false_iff.2 ⟨beq_eq_false_iff_ne.2 (by assumption), beq_eq_false_iff_ne.2 (by assumption)⟩), (Below.refl _ _).alloc (Nat.le_refl _) _⟩
 by_cases h4 : 8 < d
 ·have HD := Lib.hid (show decide (legP ⟨e, d, s, o, y⟩) = false from decide_eq_false (by unfold legP; dsimp only; omega))
  go_enter Tryz.func95, Tryz.ntmps95
  go_wp2_with fail
  go_ret
  exact ⟨by rw [HD.out]; first | rfl | exact aZe (beq_eq_false_iff_ne.2 (by assumption)) | exact aZe (bne_iff_ne.2 (by assumption)) | exact aZe (Bool.or_eq_false_iff.2 ⟨beq_eq_false_iff_ne.2 (by assumption), beq_eq_false_iff_ne.2 (by assumption)⟩), (Below.refl _ _).alloc (Nat.le_refl _) _⟩
 have hs : s = 1 ∨ s = -1 ∨ (s ≠ 1 ∧ s ≠ -1) := by omega
 rcases hs with rfl | rfl | ⟨s1, s2⟩
 ·by_cases h5 : y < 0
  ·have HD := Lib.hid (show decide (legP ⟨e, d, 1, o, y⟩) = false from decide_eq_false (by unfold legP; dsimp only; omega))
   go_enter Tryz.func95, Tryz.ntmps95
   go_wp2_with fail
   go_ret
   exact ⟨by rw [HD.out]; first | rfl | exact aZe (beq_eq_false_iff_ne.2 (by assumption)) | exact aZe (bne_iff_ne.2 (by assumption)) | exact aZe (Bool.or_eq_false_iff.2 ⟨beq_eq_false_iff_ne.2 (by assumption), beq_eq_false_iff_ne.2 (by assumption)⟩), (Below.refl _ _).alloc (Nat.le_refl _) _⟩
  by_cases h6 : 7 < y
  ·have HD := Lib.hid (show decide (legP ⟨e, d, 1, o, y⟩) = false from decide_eq_false (by unfold legP; dsimp only; omega))
   go_enter Tryz.func95, Tryz.ntmps95
   go_wp2_with fail
   go_ret
   exact ⟨by rw [HD.out]; first | rfl | exact aZe (beq_eq_false_iff_ne.2 (by assumption)) | exact aZe (bne_iff_ne.2 (by assumption)) | exact aZe (Bool.or_eq_false_iff.2 ⟨beq_eq_false_iff_ne.2 (by assumption), beq_eq_false_iff_ne.2 (by assumption)⟩), (Below.refl _ _).alloc (Nat.le_refl _) _⟩
  cases o with
  | false =>
   by_cases p : d % 2 = 0
   ·have hp : (d.tmod 2 == 0) = true := by rw [Int.tmod_eq_emod_of_nonneg (by omega), p]; rfl
    by_cases q : y = 0
    ·subst q
     have HD := Lib.hid (show decide (legP ⟨e, d, 1, false, 0⟩) = true from decide_eq_true (by unfold legP; simp <;> omega))
     go_enter Tryz.func95, Tryz.ntmps95
     go_wp2_with fail
     go_ret
     exact ⟨by rw [HD.out]; first | rfl | exact aZe (beq_eq_false_iff_ne.2 (by assumption)) | exact aZe (bne_iff_ne.2 (by assumption)) | exact aZe (Bool.or_eq_false_iff.2 ⟨beq_eq_false_iff_ne.2 (by assumption), beq_eq_false_iff_ne.2 (by assumption)⟩), (Below.refl _ _).alloc (Nat.le_refl _) _⟩
    have HD := Lib.hid (show decide (legP ⟨e, d, 1, false, y⟩) = false from decide_eq_false (by unfold legP; simp <;> omega))
    go_enter Tryz.func95, Tryz.ntmps95
    go_wp2_with fail
    go_ret
    exact ⟨by rw [HD.out]; first | rfl | exact aZe (beq_eq_false_iff_ne.2 (by assumption)) | exact aZe (bne_iff_ne.2 (by assumption)) | exact aZe (Bool.or_eq_false_iff.2 ⟨beq_eq_false_iff_ne.2 (by assumption), beq_eq_false_iff_ne.2 (by assumption)⟩), (Below.refl _ _).alloc (Nat.le_refl _) _⟩
   ·have hp : (d.tmod 2 == 0) = false := by rw [Int.tmod_eq_emod_of_nonneg (by omega)]; exact beq_eq_false_iff_ne.2 p
    have HD := Lib.hid (show decide (legP ⟨e, d, 1, false, y⟩) = false from decide_eq_false (by unfold legP; simp <;> omega))
    go_enter Tryz.func95, Tryz.ntmps95
    go_wp2_with fail
    go_ret
    exact ⟨by rw [HD.out]; first | rfl | exact aZe (beq_eq_false_iff_ne.2 (by assumption)) | exact aZe (bne_iff_ne.2 (by assumption)) | exact aZe (Bool.or_eq_false_iff.2 ⟨beq_eq_false_iff_ne.2 (by assumption), beq_eq_false_iff_ne.2 (by assumption)⟩), (Below.refl _ _).alloc (Nat.le_refl _) _⟩
  | true =>
   by_cases p : (y - d) % 2 = 0
   ·have hp : ((y - d).tmod 2 != 0) = false := by rw [tm2]; exact decide_eq_false (fun h => h p)
    by_cases d1 : d = 1
    ·subst d1
     by_cases y1 : y = 1
     ·subst y1
      have HD := Lib.hid (show decide (legP ⟨e, 1, 1, true, 1⟩) = true from decide_eq_true (by unfold legP; simp <;> omega))
      go_enter Tryz.func95, Tryz.ntmps95
      go_wp2_with fail
      go_ret
      exact ⟨by rw [HD.out]; first | rfl | exact aZe (beq_eq_false_iff_ne.2 (by assumption)) | exact aZe (bne_iff_ne.2 (by assumption)) | exact aZe (Bool.or_eq_false_iff.2 ⟨beq_eq_false_iff_ne.2 (by assumption), beq_eq_false_iff_ne.2 (by assumption)⟩), (Below.refl _ _).alloc (Nat.le_refl _) _⟩
     by_cases y7 : y = 7
     ·subst y7
      have HD := Lib.hid (show decide (legP ⟨e, 1, 1, true, 7⟩) = true from decide_eq_true (by unfold legP; simp <;> omega))
      go_enter Tryz.func95, Tryz.ntmps95
      go_wp2_with fail
      go_ret
      exact ⟨by rw [HD.out]; first | rfl | exact aZe (beq_eq_false_iff_ne.2 (by assumption)) | exact aZe (bne_iff_ne.2 (by assumption)) | exact aZe (Bool.or_eq_false_iff.2 ⟨beq_eq_false_iff_ne.2 (by assumption), beq_eq_false_iff_ne.2 (by assumption)⟩), (Below.refl _ _).alloc (Nat.le_refl _) _⟩
     have HD := Lib.hid (show decide (legP ⟨e, 1, 1, true, y⟩) = false from decide_eq_false (by unfold legP; simp <;> omega))
     go_enter Tryz.func95, Tryz.ntmps95
     go_wp2_with fail
     go_ret
     exact ⟨by rw [HD.out]; first | rfl | exact aZe (beq_eq_false_iff_ne.2 (by assumption)) | exact aZe (bne_iff_ne.2 (by assumption)) | exact aZe (Bool.or_eq_false_iff.2 ⟨beq_eq_false_iff_ne.2 (by assumption), beq_eq_false_iff_ne.2 (by assumption)⟩), (Below.refl _ _).alloc (Nat.le_refl _) _⟩
    by_cases d2 : d = 2
    ·subst d2
     by_cases y4 : y = 4
     ·subst y4
      have HD := Lib.hid (show decide (legP ⟨e, 2, 1, true, 4⟩) = false from decide_eq_false (by unfold legP; simp <;> omega))
      go_enter Tryz.func95, Tryz.ntmps95
      go_wp2_with fail
      go_ret
      exact ⟨by rw [HD.out]; first | rfl | exact aZe (beq_eq_false_iff_ne.2 (by assumption)) | exact aZe (bne_iff_ne.2 (by assumption)) | exact aZe (Bool.or_eq_false_iff.2 ⟨beq_eq_false_iff_ne.2 (by assumption), beq_eq_false_iff_ne.2 (by assumption)⟩), (Below.refl _ _).alloc (Nat.le_refl _) _⟩
     have HD := Lib.hid (show decide (legP ⟨e, 2, 1, true, y⟩) = true from decide_eq_true (by unfold legP; simp <;> omega))
     go_enter Tryz.func95, Tryz.ntmps95
     go_wp2_with fail
     go_ret
     exact ⟨by rw [HD.out]; first | rfl | exact aZe (beq_eq_false_iff_ne.2 (by assumption)) | exact aZe (bne_iff_ne.2 (by assumption)) | exact aZe (Bool.or_eq_false_iff.2 ⟨beq_eq_false_iff_ne.2 (by assumption), beq_eq_false_iff_ne.2 (by assumption)⟩), (Below.refl _ _).alloc (Nat.le_refl _) _⟩
    have HD := Lib.hid (show decide (legP ⟨e, d, 1, true, y⟩) = true from decide_eq_true (by unfold legP; simp <;> omega))
    go_enter Tryz.func95, Tryz.ntmps95
    go_wp2_with fail
    go_ret
    exact ⟨by rw [HD.out]; first | rfl | exact aZe (beq_eq_false_iff_ne.2 (by assumption)) | exact aZe (bne_iff_ne.2 (by assumption)) | exact aZe (Bool.or_eq_false_iff.2 ⟨beq_eq_false_iff_ne.2 (by assumption), beq_eq_false_iff_ne.2 (by assumption)⟩), (Below.refl _ _).alloc (Nat.le_refl _) _⟩
   ·have hp : ((y - d).tmod 2 != 0) = true := by rw [tm2]; exact decide_eq_true p
    have HD := Lib.hid (show decide (legP ⟨e, d, 1, true, y⟩) = false from decide_eq_false (by unfold legP; simp <;> omega))
    go_enter Tryz.func95, Tryz.ntmps95
    go_wp2_with fail
    go_ret
    exact ⟨by rw [HD.out]; first | rfl | exact aZe (beq_eq_false_iff_ne.2 (by assumption)) | exact aZe (bne_iff_ne.2 (by assumption)) | exact aZe (Bool.or_eq_false_iff.2 ⟨beq_eq_false_iff_ne.2 (by assumption), beq_eq_false_iff_ne.2 (by assumption)⟩), (Below.refl _ _).alloc (Nat.le_refl _) _⟩
 ·by_cases h5 : y < 0
  ·have HD := Lib.hid (show decide (legP ⟨e, d, (-1), o, y⟩) = false from decide_eq_false (by unfold legP; dsimp only; omega))
   go_enter Tryz.func95, Tryz.ntmps95
   go_wp2_with fail
   go_ret
   exact ⟨by rw [HD.out]; first | rfl | exact aZe (beq_eq_false_iff_ne.2 (by assumption)) | exact aZe (bne_iff_ne.2 (by assumption)) | exact aZe (Bool.or_eq_false_iff.2 ⟨beq_eq_false_iff_ne.2 (by assumption), beq_eq_false_iff_ne.2 (by assumption)⟩), (Below.refl _ _).alloc (Nat.le_refl _) _⟩
  by_cases h6 : 7 < y
  ·have HD := Lib.hid (show decide (legP ⟨e, d, (-1), o, y⟩) = false from decide_eq_false (by unfold legP; dsimp only; omega))
   go_enter Tryz.func95, Tryz.ntmps95
   go_wp2_with fail
   go_ret
   exact ⟨by rw [HD.out]; first | rfl | exact aZe (beq_eq_false_iff_ne.2 (by assumption)) | exact aZe (bne_iff_ne.2 (by assumption)) | exact aZe (Bool.or_eq_false_iff.2 ⟨beq_eq_false_iff_ne.2 (by assumption), beq_eq_false_iff_ne.2 (by assumption)⟩), (Below.refl _ _).alloc (Nat.le_refl _) _⟩
  cases o with
  | false =>
   by_cases p : d % 2 = 0
   ·have hp : (d.tmod 2 == 0) = true := by rw [Int.tmod_eq_emod_of_nonneg (by omega), p]; rfl
    by_cases q : y = 0
    ·subst q
     have HD := Lib.hid (show decide (legP ⟨e, d, (-1), false, 0⟩) = true from decide_eq_true (by unfold legP; simp <;> omega))
     go_enter Tryz.func95, Tryz.ntmps95
     go_wp2_with fail
     go_ret
     exact ⟨by rw [HD.out]; first | rfl | exact aZe (beq_eq_false_iff_ne.2 (by assumption)) | exact aZe (bne_iff_ne.2 (by assumption)) | exact aZe (Bool.or_eq_false_iff.2 ⟨beq_eq_false_iff_ne.2 (by assumption), beq_eq_false_iff_ne.2 (by assumption)⟩), (Below.refl _ _).alloc (Nat.le_refl _) _⟩
    have HD := Lib.hid (show decide (legP ⟨e, d, (-1), false, y⟩) = false from decide_eq_false (by unfold legP; simp <;> omega))
    go_enter Tryz.func95, Tryz.ntmps95
    go_wp2_with fail
    go_ret
    exact ⟨by rw [HD.out]; first | rfl | exact aZe (beq_eq_false_iff_ne.2 (by assumption)) | exact aZe (bne_iff_ne.2 (by assumption)) | exact aZe (Bool.or_eq_false_iff.2 ⟨beq_eq_false_iff_ne.2 (by assumption), beq_eq_false_iff_ne.2 (by assumption)⟩), (Below.refl _ _).alloc (Nat.le_refl _) _⟩
   ·have hp : (d.tmod 2 == 0) = false := by rw [Int.tmod_eq_emod_of_nonneg (by omega)]; exact beq_eq_false_iff_ne.2 p
    have HD := Lib.hid (show decide (legP ⟨e, d, (-1), false, y⟩) = false from decide_eq_false (by unfold legP; simp <;> omega))
    go_enter Tryz.func95, Tryz.ntmps95
    go_wp2_with fail
    go_ret
    exact ⟨by rw [HD.out]; first | rfl | exact aZe (beq_eq_false_iff_ne.2 (by assumption)) | exact aZe (bne_iff_ne.2 (by assumption)) | exact aZe (Bool.or_eq_false_iff.2 ⟨beq_eq_false_iff_ne.2 (by assumption), beq_eq_false_iff_ne.2 (by assumption)⟩), (Below.refl _ _).alloc (Nat.le_refl _) _⟩
  | true =>
   by_cases p : (y - d) % 2 = 0
   ·have hp : ((y - d).tmod 2 != 0) = false := by rw [tm2]; exact decide_eq_false (fun h => h p)
    by_cases d1 : d = 1
    ·subst d1
     by_cases y1 : y = 3
     ·subst y1
      have HD := Lib.hid (show decide (legP ⟨e, 1, (-1), true, 3⟩) = true from decide_eq_true (by unfold legP; simp <;> omega))
      go_enter Tryz.func95, Tryz.ntmps95
      go_wp2_with fail
      go_ret
      exact ⟨by rw [HD.out]; first | rfl | exact aZe (beq_eq_false_iff_ne.2 (by assumption)) | exact aZe (bne_iff_ne.2 (by assumption)) | exact aZe (Bool.or_eq_false_iff.2 ⟨beq_eq_false_iff_ne.2 (by assumption), beq_eq_false_iff_ne.2 (by assumption)⟩), (Below.refl _ _).alloc (Nat.le_refl _) _⟩
     by_cases y7 : y = 5
     ·subst y7
      have HD := Lib.hid (show decide (legP ⟨e, 1, (-1), true, 5⟩) = true from decide_eq_true (by unfold legP; simp <;> omega))
      go_enter Tryz.func95, Tryz.ntmps95
      go_wp2_with fail
      go_ret
      exact ⟨by rw [HD.out]; first | rfl | exact aZe (beq_eq_false_iff_ne.2 (by assumption)) | exact aZe (bne_iff_ne.2 (by assumption)) | exact aZe (Bool.or_eq_false_iff.2 ⟨beq_eq_false_iff_ne.2 (by assumption), beq_eq_false_iff_ne.2 (by assumption)⟩), (Below.refl _ _).alloc (Nat.le_refl _) _⟩
     have HD := Lib.hid (show decide (legP ⟨e, 1, (-1), true, y⟩) = false from decide_eq_false (by unfold legP; simp <;> omega))
     go_enter Tryz.func95, Tryz.ntmps95
     go_wp2_with fail
     go_ret
     exact ⟨by rw [HD.out]; first | rfl | exact aZe (beq_eq_false_iff_ne.2 (by assumption)) | exact aZe (bne_iff_ne.2 (by assumption)) | exact aZe (Bool.or_eq_false_iff.2 ⟨beq_eq_false_iff_ne.2 (by assumption), beq_eq_false_iff_ne.2 (by assumption)⟩), (Below.refl _ _).alloc (Nat.le_refl _) _⟩
    by_cases d2 : d = 2
    ·subst d2
     by_cases y4 : y = 0
     ·subst y4
      have HD := Lib.hid (show decide (legP ⟨e, 2, (-1), true, 0⟩) = false from decide_eq_false (by unfold legP; simp <;> omega))
      go_enter Tryz.func95, Tryz.ntmps95
      go_wp2_with fail
      go_ret
      exact ⟨by rw [HD.out]; first | rfl | exact aZe (beq_eq_false_iff_ne.2 (by assumption)) | exact aZe (bne_iff_ne.2 (by assumption)) | exact aZe (Bool.or_eq_false_iff.2 ⟨beq_eq_false_iff_ne.2 (by assumption), beq_eq_false_iff_ne.2 (by assumption)⟩), (Below.refl _ _).alloc (Nat.le_refl _) _⟩
     have HD := Lib.hid (show decide (legP ⟨e, 2, (-1), true, y⟩) = true from decide_eq_true (by unfold legP; simp <;> omega))
     go_enter Tryz.func95, Tryz.ntmps95
     go_wp2_with fail
     go_ret
     exact ⟨by rw [HD.out]; first | rfl | exact aZe (beq_eq_false_iff_ne.2 (by assumption)) | exact aZe (bne_iff_ne.2 (by assumption)) | exact aZe (Bool.or_eq_false_iff.2 ⟨beq_eq_false_iff_ne.2 (by assumption), beq_eq_false_iff_ne.2 (by assumption)⟩), (Below.refl _ _).alloc (Nat.le_refl _) _⟩
    have HD := Lib.hid (show decide (legP ⟨e, d, (-1), true, y⟩) = true from decide_eq_true (by unfold legP; simp <;> omega))
    go_enter Tryz.func95, Tryz.ntmps95
    go_wp2_with fail
    go_ret
    exact ⟨by rw [HD.out]; first | rfl | exact aZe (beq_eq_false_iff_ne.2 (by assumption)) | exact aZe (bne_iff_ne.2 (by assumption)) | exact aZe (Bool.or_eq_false_iff.2 ⟨beq_eq_false_iff_ne.2 (by assumption), beq_eq_false_iff_ne.2 (by assumption)⟩), (Below.refl _ _).alloc (Nat.le_refl _) _⟩
   ·have hp : ((y - d).tmod 2 != 0) = true := by rw [tm2]; exact decide_eq_true p
    have HD := Lib.hid (show decide (legP ⟨e, d, (-1), true, y⟩) = false from decide_eq_false (by unfold legP; simp <;> omega))
    go_enter Tryz.func95, Tryz.ntmps95
    go_wp2_with fail
    go_ret
    exact ⟨by rw [HD.out]; first | rfl | exact aZe (beq_eq_false_iff_ne.2 (by assumption)) | exact aZe (bne_iff_ne.2 (by assumption)) | exact aZe (Bool.or_eq_false_iff.2 ⟨beq_eq_false_iff_ne.2 (by assumption), beq_eq_false_iff_ne.2 (by assumption)⟩), (Below.refl _ _).alloc (Nat.le_refl _) _⟩
 ·have HD := Lib.hid (show decide (legP ⟨e, d, s, o, y⟩) = false from decide_eq_false (by unfold legP; dsimp only; omega))
  go_enter Tryz.func95, Tryz.ntmps95
  go_wp2_with fail
  go_ret
  exact ⟨by rw [HD.out]; first | rfl | exact aZe (beq_eq_false_iff_ne.2 (by assumption)) | exact aZe (bne_iff_ne.2 (by assumption)) | exact aZe (Bool.or_eq_false_iff.2 ⟨beq_eq_false_iff_ne.2 (by assumption), beq_eq_false_iff_ne.2 (by assumption)⟩), (Below.refl _ _).alloc (Nat.le_refl _) _⟩
section
variable (En : Ev)
theorem iZP (c : Co) : Fn Tryz.prog En 95 [aggP (coc c)] (ex (.bool (decide (legP c)))) := by
 obtain ⟨e, d, s, o, y⟩ := c
 rintro h w vs _ hh hv
 obtain ⟨v, rfl, us, rfl, ha⟩ := hv.one
 match us, ha with
 | [_, _, _, _, _], ⟨rfl, _, rfl, _, rfl, _, rfl, _, rfl, _, _⟩ => exact (jZJ e d s y o w).mono fun _ _ ⟨he, hb⟩ => by subst he; exact bZU hh hb rfl
end
end Go.Proofs.YtdieokoenhncfaaGreatDoor
/- Least oddities: the program's slices.Clone, least, Refine. (With LT.skipU.) -/
namespace Go.Proofs.YtdieokoenhncfaaGreatDoor
open Go.RowKit Limb Num
instance cbody136 : CBody Tryz.prog 136 := ⟨⟨_, Tryz.func136, rfl, by rfl⟩⟩
instance cbody137 : CBody Tryz.prog 137 := ⟨⟨_, Tryz.func137, rfl, by rfl⟩⟩
instance cbody98 : CBody Tryz.prog 98 := ⟨⟨_, Tryz.func98, rfl, by rfl⟩⟩
instance carr_b8 : CArr Tryz.prog 161 8 4 1 := ⟨Tryz.underlying161, by kernel_rfl⟩
instance crow_b8 : CRow Tryz.prog 161 8 := ⟨⟨_, Tryz.underlying161, rfl, by kernel_rfl⟩⟩
theorem zero_b8 : bZO Tryz.prog 161 [.bool false, .bool false, .bool false, .bool false, .bool false, .bool false, .bool false, .bool false] := ⟨by kernel_rfl, by simp [Value.oneCell']⟩
instance czero_b8 : CZero Tryz.prog 161 [.bool false, .bool false, .bool false, .bool false, .bool false, .bool false, .bool false, .bool false] := ⟨zero_b8⟩
instance c1_any : C1 anyC := ⟨fun _ _ h => h⟩
section
variable {P : Program} {En : Ev} {n : Nat} {sl : Sl} {bx : Bx} {dst : Option Tmp} {ty : TypeId} {pos : String} {after : Array Edge} {guard : Option (Nat × Bool)}
theorem dZX {T E : TypeId} {x ix : Operand} {len : Nat} {ps : List Pd} {q : Pd} {kk : IntKind} {i : Nat} [hT : CArr P T len E 1] [hE : COne P E] (hx : osd sl x = some (.one (aggP ps))) (hi : osd sl ix = some (.one (ex (.int kk (i : Int))))) (hy : i < len) (hq : ps[i]? = some q) :
  RT P En n ⟨dst, .index T x ix, ty, pos, after, guard⟩ sl bx ⟨.one q, [], []⟩ :=
 RT.pure fun ρ h β bx' H => by
  obtain ⟨vs, h1, h2⟩ : (aggP ps).p h (ρ x) := (H x (by simp [Op.operands]) _ hx).1
  have h6 : ρ ix = .int kk (i : Int) := (H ix (by simp [Op.operands]) _ hi).1
  obtain ⟨v, v1, v2, _⟩ := h2.get hq
  obtain ⟨t1, t2⟩ := hT.ok
  obtain ⟨inf, t3, t4⟩ := Option.map_eq_some_iff.1 t2
  obtain ⟨d, hd1, hd2, _⟩ := hE.ok
  have h5 : (0 : Int) ≤ (i : Int) ∧ (i : Int) < (len : Int) := by omega
  refine ⟨v, fun w _ => ?_, v2, trivial⟩
  simp only [execOp, h1, h6, Instr.index, asIntOf, Sem.run_bind, Sem.run_pure, Result.andThen_ok, run_underlying t1, if_pos h5, sizeOf, run_typeInfo _ t3, t4, part, bZH hd1, hd2, Int.toNat_natCast, Nat.mul_one]
  simp [v1]
theorem Sub.ownAny {σ : St} {t b o l k : Nat} (h1 : look σ.sl t = some (.own b o l k)) : Sub σ ⟨(t, .one anyC) :: σ.sl, σ.bx⟩ := by
 rintro En n w0 h0 c a w ⟨h, β, hi, hs⟩
 obtain ⟨v, r1, ⟨cap, r2, _⟩, _⟩ := hs.slot t _ h1
 refine ⟨h, β, hi, hs.defers, hs.size, fun t' sd ht => ?_⟩
 rw [aZi] at ht
 split at ht
 ·rename_i e
  subst e
  cases ht
  exact ⟨v, r1, by show v.oneCell' = true; rw [r2]; rfl, trivial⟩
 ·exact hs.slot t' sd ht
theorem agg_any (p q : Pd) [C1 p] [C1 q] : PLe (aggP [p, q]) (aggP [anyC, anyC]) := by
 rintro h v ⟨vs, e, ha⟩
 match vs, ha with
 | [a, b], ⟨_, h2, _, h4, h5⟩ => exact ⟨[a, b], e, h2, h2, h4, h4, h5⟩
theorem dZH (p q r : Pd) [C1 p] [C1 q] : PLe (tupP [aggP [p, q], r]) (tupP [aggP [anyC, anyC], r]) := by
 rintro h v ⟨vs, e, ha⟩
 match vs, ha with
 | [a, b], ⟨h1, h2, h3⟩ => exact ⟨[a, b], e, agg_any p q _ _ h1, h2, h3⟩
end
theorem retG2 {P : Program} {fn : Func} {σ : St} {r : Pd} {bx' : Bx} {a b : ResultVar} {p q : Pd} (hf : fn.results = #[a, b]) (h1 : RV P σ a p) (h2 : RV P σ b q) (hr : PLe (tupP [p, q]) r) (hs : cZF σ.bx bx') : RetG P fn σ (.one r) bx' := by
 refine ⟨hs, fun En n w0 h0 c h β act w hi hsl => ?_⟩
 obtain ⟨v, hv, hp⟩ := h1.run hi hsl
 obtain ⟨u, hu, hq⟩ := h2.run hi hsl
 exact ⟨.tuple #[v, u], by rw [bZ0, hf]; simp [hv, hu], hr _ _ ⟨[v, u], rfl, hp, hq, trivial⟩, trivial⟩
def wy (c : Co) (t : Int) : Co := ⟨c.e, c.d, c.s, c.o, t⟩
def fea (g : Nat → Co) : List Nat → Nat → Prop
 | [], s => s % 8 = 0
 | i :: l, s => ∃ t : Nat, t < 8 ∧ legP (wy (g i) (t : Int)) ∧ fea g l (s + (8 - t))
theorem bZV {g : Nat → Co} : ∀ {l : List Nat} {s s' : Nat}, s % 8 = s' % 8 → (fea g l s ↔ fea g l s')
 | [], s, s', h => by unfold fea; omega
 | i :: l, s, s', h => by
  unfold fea
  exact exists_congr fun t => and_congr_right fun ht => and_congr_right fun _ => bZV (by omega)
theorem gZj {g f : Nat → Co} : ∀ {l : List Nat} {s : Nat}, (∀ i ∈ l, ∀ t, wy (g i) t = wy (f i) t) → (fea g l s ↔ fea f l s)
 | [], s, _ => Iff.rfl
 | i :: l, s, h => by
  unfold fea
  exact exists_congr fun t => and_congr_right fun ht => and_congr (by rw [h i (by simp)]) (gZj fun j hj => h j (by simp [hj]))
theorem fZ3 {g : Nat → Co} {i : Nat} : ∀ {l : List Nat} {s : Nat}, fea g (l ++ [i]) s ↔ ∃ t : Nat, t < 8 ∧ legP (wy (g i) (t : Int)) ∧ fea g l (s + (8 - t))
 | [], s => by unfold fea; exact Iff.rfl
 | j :: l, s => by
  rw [List.cons_append]
  unfold fea
  constructor
  ·rintro ⟨t, ht, hl, hf⟩
   obtain ⟨u, hu, hl', hf'⟩ := fZ3.1 hf
   exact ⟨u, hu, hl', t, ht, hl, (bZV (by omega)).1 hf'⟩
  ·rintro ⟨u, hu, hl', t, ht, hl, hf⟩
   exact ⟨t, ht, hl, fZ3.2 ⟨u, hu, hl', (bZV (by omega)).1 hf⟩⟩
def b8 (S : Nat → Bool) : List Pd := [ex (.bool (S 0)), ex (.bool (S 1)), ex (.bool (S 2)), ex (.bool (S 3)), ex (.bool (S 4)), ex (.bool (S 5)), ex (.bool (S 6)), ex (.bool (S 7))]
theorem nZi {S : Nat → Bool} {r : Nat} (h : r < 8) : (b8 S)[r]? = some (ex (.bool (S r))) := by
 match r, h with
 | 0, _ => rfl
 | 1, _ => rfl
 | 2, _ => rfl
 | 3, _ => rfl
 | 4, _ => rfl
 | 5, _ => rfl
 | 6, _ => rfl
 | 7, _ => rfl
 | r + 8, h => omega
theorem b8_set {S : Nat → Bool} {r : Nat} (h : r < 8) : (b8 S).set r (ex (.bool true)) = b8 (fun i => if i = r then true else S i) := by
 match r, h with
 | 0, _ => rfl
 | 1, _ => rfl
 | 2, _ => rfl
 | 3, _ => rfl
 | 4, _ => rfl
 | 5, _ => rfl
 | 6, _ => rfl
 | 7, _ => rfl
 | r + 8, h => omega
theorem mZa {S T : Nat → Bool} (h : ∀ r, r < 8 → S r = T r) : b8 S = b8 T := by
 unfold b8
 rw [h 0 (by omega), h 1 (by omega), h 2 (by omega), h 3 (by omega), h 4 (by omega), h 5 (by omega), h 6 (by omega), h 7 (by omega)]
instance fea_dec (g : Nat → Co) : ∀ (l : List Nat) (s : Nat), Decidable (fea g l s)
 | [], s => by unfold fea; infer_instance
 | i :: l, s => by
  unfold fea
  have := fun t => fea_dec g l (s + (8 - t))
  infer_instance
def feB (g : Nat → Co) (l : List Nat) (r : Nat) : Bool := decide (fea g l r)
theorem dZ2 {g : Nat → Co} {l : List Nat} {r : Nat} : feB g l r = true ↔ fea g l r := by unfold feB; exact decide_eq_true_iff
theorem feB_nil (g : Nat → Co) : b8 (feB g []) = [ex (.bool true), ex (.bool false), ex (.bool false), ex (.bool false), ex (.bool false), ex (.bool false), ex (.bool false), ex (.bool false)] := by
 have h : ∀ r, feB g [] r = (r % 8 == 0) := fun r => by
  rw [Bool.eq_iff_iff, dZ2]; unfold fea; simp
 unfold b8
 rw [h, h, h, h, h, h, h, h]
 rfl
def NX (S : Nat → Bool) (c : Co) (t j : Nat) (N : Nat → Bool) : Prop := ∀ r, r < 8 → (N r = true ↔ ∃ t' s' : Nat, (t' < t ∨ t' = t ∧ s' < j) ∧ s' < 8 ∧ S s' = true ∧ legP (wy c (t' : Int)) ∧ (s' + t') % 8 = r)
theorem NX.start (S : Nat → Bool) (c : Co) : NX S c 0 0 (fun _ => false) := fun r _ => by
 constructor
 ·intro h; cases h
 ·rintro ⟨t', s', h, _⟩; omega
theorem NX.put {S : Nat → Bool} {c : Co} {t j : Nat} {N : Nat → Bool} (h : NX S c t j N) (hj : j < 8) (h1 : S j = true) (h2 : legP (wy c (t : Int))) : NX S c t (j + 1) (fun i => if i = (j + t) % 8 then true else N i) := fun r hr => by
 dsimp only
 split
 ·rename_i e
  exact ⟨fun _ => ⟨t, j, .inr ⟨rfl, by omega⟩, hj, h1, h2, e.symm⟩, fun _ => rfl⟩
 ·rename_i e
  rw [h r hr]
  constructor
  ·rintro ⟨t', s', a, b⟩; exact ⟨t', s', by omega, b⟩
  ·rintro ⟨t', s', a, b, c1, c2, c3⟩
   refine ⟨t', s', ?_, b, c1, c2, c3⟩
   rcases a with a | ⟨a1, a2⟩
   ·exact .inl a
   ·refine .inr ⟨a1, ?_⟩
    rcases Nat.lt_or_ge s' j with g | g
    ·exact g
    ·have : s' = j := by omega
     subst this a1; exact absurd c3.symm e
theorem NX.no {S : Nat → Bool} {c : Co} {t j : Nat} {N : Nat → Bool} (h : NX S c t j N) (h1 : ¬ (S j = true ∧ legP (wy c (t : Int)))) : NX S c t (j + 1) N := fun r hr => by
 rw [h r hr]
 constructor
 ·rintro ⟨t', s', a, b⟩; exact ⟨t', s', by omega, b⟩
 ·rintro ⟨t', s', a, b, c1, c2, c3⟩
  refine ⟨t', s', ?_, b, c1, c2, c3⟩
  rcases a with a | ⟨a1, a2⟩
  ·exact .inl a
  ·refine .inr ⟨a1, ?_⟩
   rcases Nat.lt_or_ge s' j with g | g
   ·exact g
   ·have : s' = j := by omega
    subst this a1; exact absurd ⟨c1, c2⟩ h1
theorem NX.next {S : Nat → Bool} {c : Co} {t : Nat} {N : Nat → Bool} (h : NX S c t 8 N) : NX S c (t + 1) 0 N := fun r hr => by
 rw [h r hr]
 constructor
 ·rintro ⟨t', s', a, b⟩; exact ⟨t', s', by omega, b⟩
 ·rintro ⟨t', s', a, b⟩; exact ⟨t', s', by omega, b⟩
theorem NX.done {g : Nat → Co} {l : List Nat} {i : Nat} {N : Nat → Bool} (h : NX (feB g l) (g i) 8 0 N) : b8 N = b8 (feB g (l ++ [i])) := mZa fun r hr => by
 rw [Bool.eq_iff_iff, h r hr, dZ2, fZ3]
 constructor
 ·rintro ⟨t, s, a, b, c1, c2, c3⟩
  exact ⟨t, by omega, c2, (bZV (by omega)).1 (dZ2.1 c1)⟩
 ·rintro ⟨t, ht, hl, hf⟩
  exact ⟨t, (r + (8 - t)) % 8, by omega, by omega, dZ2.2 ((bZV (by omega)).1 hf), hl, by omega⟩
theorem cZ2 {g : Nat → Co} {n x : Nat} (h : x < n) (v : Int) : (rows (ccs g) n).set (x * 5 + 4) (ex (.int .i64 v)) = rows (ccs (fun i => if i = x then wy (g x) v else g i)) n := by
 obtain ⟨Lo, Hi, h1, h2, h3⟩ := cZf (aZp g) h
 rw [h3 (ccs (fun i => if i = x then wy (g x) v else g i)) (fun t ht => by unfold ccs; dsimp only; rw [if_neg ht]), h2]
 unfold ccs
 dsimp only
 rw [if_pos rfl, List.set_append_right _ _ (by omega), h1, show x * 5 + 4 - x * 5 = 4 by omega, List.set_append_left _ _ (by simp [coc])]
 rfl
theorem tm8 (a : Nat) : ((a : Nat) : Int).tmod 8 = ((a % 8 : Nat) : Int) := by
 rw [Int.tmod_eq_emod_of_nonneg (Int.natCast_nonneg _)]; rfl
section
variable (En : Ev)
theorem tclone (f : Nat → Co) (n : Nat) (hn0 : 0 < n) (hn : n ≤ 20) : FnG Tryz.prog En 136 ([slc 5 (rows (ccs f) n) n].map .one) [] (.own 7 0 n n) [(7, rows (ccs f) n)] := by
 have hm : n ≤ 1000000000 := by omega
 refine aZL Tryz.func136 rfl Tryz.ntmps136 rfl ?_
 intro w0 h0 c
 repeat (first | apply js | apply jb)
 refine jr (ja jj (jn ?_))
 repeat (first | apply js | apply jb)
 refine jr (jm jj (jS (rc_nilS hn0 (by decide) jj) (jn ?_)))
 repeat (first | apply js | apply jb)
 refine WpD.condF rfl ?_
 repeat (first | apply js | apply jb)
 refine WpD.skip ?_
 repeat (first | apply js | apply jb)
 refine jr (jS (fZn) (jm jj (jT (dZv jj (fun _ _ ⟨a, h⟩ => ⟨some a, h⟩) jj hn0 hm jj jj jj) (ja jj (jn ?_)))))
 repeat (first | apply js | apply jb)
 refine WpD.ret ?_
 exact fZm rfl rfl rfl (Option.some_ne_none _) ⟨.inl ⟨_, rfl, PsLe.refl _⟩, trivial⟩
def lstP (g : Nat → Co) (c : Co) (l : List Nat) (T : Nat) : Option Nat → Prop
 | some v => v < 8 ∧ (legP (wy c (v : Int)) ∧ fea g l (T + (8 - v))) ∧ ∀ t : Nat, t < v → ¬ (legP (wy c (t : Int)) ∧ fea g l (T + (8 - t)))
 | none => ∀ t : Nat, t < 8 → ¬ (legP (wy c (t : Int)) ∧ fea g l (T + (8 - t)))
set_option maxHeartbeats 4000000 in
theorem tleast (g : Nat → Co) (n : Nat) (cc : Co) (l : List Nat) (T : Nat) (hT : T < 8) (hl : l.length ≤ 20) (hli : ∀ i ∈ l, i < n) (r : Option Nat) (hr : lstP g cc l T r) :
  FnG Tryz.prog En 137 [.one (aggP (coc cc)), .own 1000 0 n n, .one (gP l), .one (ex (.int .i64 (T : Int)))] [(1000, rows (ccs g) n)] (.one (tupP [ex (.int .i64 ((r.getD 0 : Nat) : Int)), ex (.bool r.isSome)])) [(1000, rows (ccs g) n)] := by
 have hlen : (rows (ccs g) n).length = n * 5 := aZ3 (aZp g) n
 unfold gP
 unfold coc
 refine aZL Tryz.func137 rfl Tryz.ntmps137 rfl ?_
 intro w0 h0 c
 refine js (jr (jB jj jj jj (ja jj (ja jj (jn (js (jr (jS (cZM (ps := [(0, [ex (.bool true)])]) ⟨jj, Part.c jj, trivial⟩ jj) (jA jj jj jj (jP jj jj jj jj (jn (js (js (jr (jm jj (jE jj (jm jj (jn (jb ?_)))))))))))))))))))
 refine WpD.loop (α := {k : Nat // k ≤ l.length}) (fun k => ⟨[(1, .own 1000 0 n n), (3, .one (ex (.int .i64 (T : Int)))), (4, .ptr 4 0), (10, .ptr 10 0), (18, .one (slc 1 (ixP l) l.length)), (19, .one (ex (.int .i64 (l.length : Int)))), (20, .one (ex (.int .i64 (k.1 : Int))))], [(1000, rows (ccs g) n), (4, [ex (.int .i64 cc.e), ex (.int .i64 cc.d), ex (.int .i64 cc.s), ex (.bool cc.o), ex (.int .i64 cc.y)]), (10, b8 (feB g (l.take k.1)))]⟩) (fun k => l.length - k.1) ⟨0, Nat.zero_le _⟩ ?_ ?_
 ·dsimp only
  rw [List.take_zero]
  refine Sub.mk ?_ ⟨.inl ⟨_, jj, PsLe.refl _⟩, .inl ⟨_, jj, PsLe.refl _⟩, .inl ⟨_, jj, PsLe.of_eq (feB_nil g).symm⟩, trivial⟩
  repeat (first | exact trivial | refine jV jj ?_ | refine jw jj (js0 jj) ?_)
 rintro ⟨k, hk⟩
 dsimp only at hk ⊢
 by_cases hlt : k < l.length
 ·have hqi := bZy hlt
  have hmem := gmem 0 hlt
  have hx := hli _ hmem
  have hts : l.take (k + 1) = l.take k ++ [l.getD k 0] := by rw [List.take_succ_eq_append_getElem hlt]; simp [List.getD, List.getElem?_eq_getElem hlt]
  have w20 := wS k (by omega)
  generalize l.getD k 0 = x at *
  have hq : ((rows (ccs g) n).drop (x * 5)).take 5 = [ex (.int .i64 (g x).e), ex (.int .i64 (g x).d), ex (.int .i64 (g x).s), ex (.bool (g x).o), ex (.int .i64 (g x).y)] := aZo (aZp g) hx
  have hl5 : x * 5 + 5 ≤ (rows (ccs g) n).length := by rw [hlen]; omega
  generalize hS : feB g (l.take k) = S at *
  refine js (jr (jS (bLt jj jj) (jn (js (jt jj (jp (js (jb (js (jr (jS (aZc jj jj hlt hqi) (jS (aZf jj jj) (ja jj (jn (js (jr (jA jj jj jj (jn (js (jr (jm jj (jm jj (jS (aZy jj jj hx (o' := x * 5) (by omega)) (jS (cZe jj jj hl5 hq) (jA jj jj jj (jP jj jj jj jj (jn (js (js (jr (jF jj jj (jO (bZc jj jj jj jj jj) (jn (jb ?_))))))))))))))))))))))))))))))))))
  refine WpD.loop (α := {q : Nat × (Nat → Bool) // q.1 ≤ 8 ∧ NX S (g x) q.1 0 q.2}) (fun q => ⟨[(1, .own 1000 0 n n), (3, .one (ex (.int .i64 (T : Int)))), (4, .ptr 4 0), (10, .ptr 10 0), (13, .ptr 13 0), (14, .ptr 14 0), (18, .one (slc 1 (ixP l) l.length)), (19, .one (ex (.int .i64 (l.length : Int)))), (20, .one (ex (.int .i64 (k : Int))))], [(1000, rows (ccs g) n), (4, [ex (.int .i64 cc.e), ex (.int .i64 cc.d), ex (.int .i64 cc.s), ex (.bool cc.o), ex (.int .i64 cc.y)]), (10, b8 S), (13, b8 q.1.2), (14, [ex (.int .i64 (g x).e), ex (.int .i64 (g x).d), ex (.int .i64 (g x).s), ex (.bool (g x).o), ex (.int .i64 (q.1.1 : Int))])]⟩) (fun q => 8 - q.1.1) ⟨(0, fun _ => false), Nat.zero_le _, NX.start S (g x)⟩ ?_ ?_
  ·dsimp only
   refine Sub.mk ?_ ?_ <;> repeat (first | exact trivial | refine jV jj ?_ | refine jy jj ?_ | refine jw jj (js0 jj) ?_)
  rintro ⟨⟨t, N⟩, ht, hN⟩
  dsimp only at ht hN ⊢
  by_cases ht8 : t < 8
  ·have C1 := iZP En (wy (g x) (t : Int))
   have w33 := wS t (by omega)
   unfold coc wy at C1
   dsimp only at C1
   refine js (js (jr (jF jj jj (jl jj jj jj (jS (bLt jj jj) (jn (jt jj (jp (js (jb (js (jr (jL jj jj jj (jm jj (jn (jb ?_))))))))))))))))
   refine WpD.loop (α := {q : Nat × (Nat → Bool) // q.1 ≤ 8 ∧ NX S (g x) t q.1 q.2}) (fun q => ⟨[(1, .own 1000 0 n n), (3, .one (ex (.int .i64 (T : Int)))), (4, .ptr 4 0), (10, .ptr 10 0), (13, .ptr 13 0), (14, .ptr 14 0), (18, .one (slc 1 (ixP l) l.length)), (19, .one (ex (.int .i64 (l.length : Int)))), (20, .one (ex (.int .i64 (k : Int)))), (36, .one (aggP (b8 S))), (37, .one (ex (.int .i64 (q.1.1 : Int))))], [(1000, rows (ccs g) n), (4, [ex (.int .i64 cc.e), ex (.int .i64 cc.d), ex (.int .i64 cc.s), ex (.bool cc.o), ex (.int .i64 cc.y)]), (10, b8 S), (13, b8 q.1.2), (14, [ex (.int .i64 (g x).e), ex (.int .i64 (g x).d), ex (.int .i64 (g x).s), ex (.bool (g x).o), ex (.int .i64 (t : Int))])]⟩) (fun q => 8 - q.1.1) ⟨(0, N), Nat.zero_le _, hN⟩ ?_ ?_
   ·dsimp only
    refine Sub.mk ?_ ?_ <;> repeat (first | exact trivial | refine jV jj ?_ | refine jy jj ?_ | refine jw jj (js0 jj) ?_)
   clear hN N
   rintro ⟨⟨j, N⟩, hj, hN⟩
   dsimp only at hj hN ⊢
   by_cases hj8 : j < 8
   ·have hg8 := nZi (S := S) hj8
    have w37 := wS j (by omega)
    have w49 : IntKind.i64.wrap ((j : Int) + (t : Int)) = ((j + t : Nat) : Int) := by rw [w64 (by omega) (by omega)]; rfl
    have h50 : (j + t) % 8 < 8 := Nat.mod_lt _ (by decide)
    have h50' : (j + t) % 8 < (b8 N).length := h50
    have hset := b8_set (S := N) h50
    cases hSj : S j with
    | true =>
     rw [hSj] at hg8
     by_cases hlg : legP (wy (g x) (t : Int))
     ·rw [decide_eq_true (show legP ⟨(g x).e, (g x).d, (g x).s, (g x).o, (t : Int)⟩ from hlg)] at C1
      refine js (jr (jS (bLt jj jj) (jn (js (jt jj (jp (js (jb (js (jr (jm jj (jS (dZX jj jj hj8 hg8) (ja jj (ja jj (jn (js (jr (jm jj (jm jj (jg (aZ2 jj jj jj jj) (jg (aZa C1 ⟨jj, trivial⟩) (jq jj jj (jn (jt jj (jr (jm jj (jF jj jj (jl jj jj jj (jS (bAd jj jj w49) (jS (bRe jj jj (tm8 _)) (jS (aZ1 jj jj h50 (o' := (j + t) % 8) (by omega)) (jO (aZz jj jj jj h50' hset) (jn (jr (jS (bAd jj jj w37) (jm jj (jn ?_)))))))))))))))))))))))))))))))))))))
      refine ⟨⟨(j + 1, fun i => if i = (j + t) % 8 then true else N i), by dsimp only; omega, hN.put hj8 hSj hlg⟩, ?_, by dsimp only; omega⟩
      dsimp only
      refine Sub.mk ?_ ?_ <;> repeat (first | exact trivial | refine jV jj ?_ | refine jy jj ?_ | refine jw jj (js0 jj) ?_)
     ·rw [decide_eq_false (show ¬ legP ⟨(g x).e, (g x).d, (g x).s, (g x).o, (t : Int)⟩ from hlg)] at C1
      refine js (jr (jS (bLt jj jj) (jn (js (jt jj (jp (js (jb (js (jr (jm jj (jS (dZX jj jj hj8 hg8) (ja jj (ja jj (jn (js (jr (jm jj (jm jj (jg (aZ2 jj jj jj jj) (jg (aZa C1 ⟨jj, trivial⟩) (jq jj jj (jn (jf jj (jp (jr (jS (bAd jj jj w37) (jm jj (jn ?_)))))))))))))))))))))))))))))
      refine ⟨⟨(j + 1, N), by dsimp only; omega, hN.no (fun h => hlg h.2)⟩, ?_, by dsimp only; omega⟩
      dsimp only
      refine Sub.mk ?_ ?_ <;> repeat (first | exact trivial | refine jV jj ?_ | refine jy jj ?_ | refine jw jj (js0 jj) ?_)
    | false =>
     rw [hSj] at hg8
     refine js (jr (jS (bLt jj jj) (jn (js (jt jj (jp (js (jb (js (jr (jm jj (jS (dZX jj jj hj8 hg8) (ja jj (ja jj (jn (js (jr (jm jj (jm jj (jk (jk (jQ jj jj (jn (jf jj (jp (jr (jS (bAd jj jj w37) (jm jj (jn ?_)))))))))))))))))))))))))))))
     refine ⟨⟨(j + 1, N), by dsimp only; omega, hN.no (fun h => by rw [hSj] at h; exact Bool.noConfusion h.1)⟩, ?_, by dsimp only; omega⟩
     dsimp only
     refine Sub.mk ?_ ?_ <;> repeat (first | exact trivial | refine jV jj ?_ | refine jy jj ?_ | refine jw jj (js0 jj) ?_)
   ·have hj8' : j = 8 := by omega
    subst hj8'
    refine js (jr (jS (bLf jj jj) (jn (js (jf jj (je (jr (jF jj jj (jl jj jj jj (jS (bAd jj jj w33) (jF jj jj (jO (bZc jj jj jj jj jj) (jn ?_)))))))))))))
    refine ⟨⟨(t + 1, N), by dsimp only; omega, hN.next⟩, ?_, by dsimp only; omega⟩
    dsimp only
    refine Sub.mk ?_ ?_ <;> repeat (first | exact trivial | refine jV jj ?_ | refine jy jj ?_ | refine jw jj (js0 jj) ?_)
  ·have ht8' : t = 8 := by omega
   subst ht8'
   have hfin : b8 N = b8 (feB g (l.take (k + 1))) := by rw [hts]; rw [← hS] at hN; exact hN.done
   rw [hfin]
   refine js (js (jr (jF jj jj (jl jj jj jj (jS (bLf jj jj) (jn (jf jj (je (jr (jL jj jj jj (jP jj jj jj jj (jn (jr (jS (bAd jj jj w20) (jm jj (jn ?_))))))))))))))))
   refine ⟨⟨k + 1, by omega⟩, ?_, by dsimp only; omega⟩
   dsimp only
   refine Sub.mk ?_ ?_ <;> repeat (first | exact trivial | refine jV jj ?_ | refine jy jj ?_ | refine jw jj (js0 jj) ?_)
 ·have hkl : k = l.length := by omega
  subst hkl
  rw [List.take_length]
  generalize hS : feB g l = S at *
  refine js (jr (jS (bLf jj jj) (jn (js (jf jj (je (js (js (jr (jF jj jj (jO (bZc jj jj jj jj jj) (jn (jb ?_)))))))))))))
  refine WpD.loop (α := {t : Nat // t ≤ 8 ∧ ∀ t' : Nat, t' < t → ¬ (legP (wy cc (t' : Int)) ∧ fea g l (T + (8 - t')))}) (fun t => ⟨[(1, .own 1000 0 n n), (3, .one (ex (.int .i64 (T : Int)))), (4, .ptr 4 0), (10, .ptr 10 0)], [(1000, rows (ccs g) n), (4, [ex (.int .i64 cc.e), ex (.int .i64 cc.d), ex (.int .i64 cc.s), ex (.bool cc.o), ex (.int .i64 (t.1 : Int))]), (10, b8 S)]⟩) (fun t => 8 - t.1) ⟨0, Nat.zero_le _, fun t' h => absurd h (Nat.not_lt_zero _)⟩ ?_ ?_
  ·dsimp only
   refine Sub.mk ?_ ?_ <;> repeat (first | exact trivial | refine jV jj ?_ | refine jy jj ?_ | refine jw jj (js0 jj) ?_)
  rintro ⟨t, ht, hno⟩
  dsimp only at ht hno ⊢
  by_cases ht8 : t < 8
  ·have C1 := iZP En (wy cc (t : Int))
   unfold coc wy at C1
   dsimp only at C1
   have w60 := wS t (by omega)
   have w69 : IntKind.i64.wrap ((T : Int) - (t : Int)) = (T : Int) - (t : Int) := w64 (by omega) (by omega)
   have w70 : IntKind.i64.wrap ((T : Int) - (t : Int) + 8) = ((T + (8 - t) : Nat) : Int) := by rw [w64 (by omega) (by omega)]; omega
   have h71 : (T + (8 - t)) % 8 < 8 := Nat.mod_lt _ (by decide)
   have hg8 := nZi (S := S) h71
   have hnext : ¬ (legP (wy cc (t : Int)) ∧ fea g l (T + (8 - t))) → ∀ t' : Nat, t' < t + 1 → ¬ (legP (wy cc (t' : Int)) ∧ fea g l (T + (8 - t'))) := fun h t' h' => by
    rcases Nat.lt_or_ge t' t with q | q
    ·exact hno t' q
    ·rw [show t' = t by omega]; exact h
   by_cases hlg : legP (wy cc (t : Int))
   ·rw [decide_eq_true (show legP ⟨cc.e, cc.d, cc.s, cc.o, (t : Int)⟩ from hlg)] at C1
    by_cases hf : fea g l (T + (8 - t))
    ·have hb : S ((T + (8 - t)) % 8) = true := by rw [← hS, dZ2]; exact (bZV (by omega)).1 hf
     have hre : r = some t := by
      cases r with
      | none => exact absurd ⟨hlg, hf⟩ (hr t ht8)
      | some v =>
       obtain ⟨r1, r2, r3⟩ := hr
       rcases Nat.lt_trichotomy v t with q | q | q
       ·exact absurd r2 (hno v q)
       ·rw [q]
       ·exact absurd ⟨hlg, hf⟩ (r3 t q)
     subst hre
     rw [hb] at hg8
     refine js (js (jr (jF jj jj (jl jj jj jj (jS (bLt jj jj) (jn (jt jj (jp (js (jb (js (jr (jL jj jj jj (jS (aZa C1 ⟨jj, trivial⟩) (jm jj (jgm jj (jgf jj jj (jgl jj jj jj (jg (bSu jj jj w69) (jg (bAd jj jj w70) (jg (bRe jj jj (tm8 _)) (jg (aZ1 jj jj h71 (o' := (T + (8 - t)) % 8) (by omega)) (jg (aZt jj jj hg8) (jq jj jj (jn (jt jj (js (jr (jF jj jj (jl jj jj jj (ja jj (ja jj (jn (ji ?_))))))))))))))))))))))))))))))))))
     exact retG2 rfl (.tmp rfl) (.tmp rfl) (PLe.refl _) ⟨.inl ⟨_, rfl, PsLe.refl _⟩, trivial⟩
    ·have hb : S ((T + (8 - t)) % 8) = false := by rw [Bool.eq_false_iff, ← hS]; intro h; exact hf ((bZV (by omega)).1 (dZ2.1 h))
     rw [hb] at hg8
     refine js (js (jr (jF jj jj (jl jj jj jj (jS (bLt jj jj) (jn (jt jj (jp (js (jb (js (jr (jL jj jj jj (jS (aZa C1 ⟨jj, trivial⟩) (jm jj (jgm jj (jgf jj jj (jgl jj jj jj (jg (bSu jj jj w69) (jg (bAd jj jj w70) (jg (bRe jj jj (tm8 _)) (jg (aZ1 jj jj h71 (o' := (T + (8 - t)) % 8) (by omega)) (jg (aZt jj jj hg8) (jq jj jj (jn (jf jj (jp (jr (jF jj jj (jl jj jj jj (jS (bAd jj jj w60) (jF jj jj (jO (bZc jj jj jj jj jj) (jn ?_))))))))))))))))))))))))))))))))))
     refine ⟨⟨t + 1, by omega, hnext (fun h => hf h.2)⟩, ?_, by dsimp only; omega⟩
     dsimp only
     refine Sub.mk ?_ ?_ <;> repeat (first | exact trivial | refine jV jj ?_ | refine jy jj ?_ | refine jw jj (js0 jj) ?_)
   ·rw [decide_eq_false (show ¬ legP ⟨cc.e, cc.d, cc.s, cc.o, (t : Int)⟩ from hlg)] at C1
    refine js (js (jr (jF jj jj (jl jj jj jj (jS (bLt jj jj) (jn (jt jj (jp (js (jb (js (jr (jL jj jj jj (jS (aZa C1 ⟨jj, trivial⟩) (jm jj (jk (jk (jk (jk (jk (jk (jk (jk (jQ jj jj (jn (jf jj (jp (jr (jF jj jj (jl jj jj jj (jS (bAd jj jj w60) (jF jj jj (jO (bZc jj jj jj jj jj) (jn ?_))))))))))))))))))))))))))))))))))
    refine ⟨⟨t + 1, by omega, hnext (fun h => hlg h.1)⟩, ?_, by dsimp only; omega⟩
    dsimp only
    refine Sub.mk ?_ ?_ <;> repeat (first | exact trivial | refine jV jj ?_ | refine jy jj ?_ | refine jw jj (js0 jj) ?_)
  ·have hre : r = none := by
    cases r with
    | none => rfl
    | some v => exact absurd hr.2.1 (hno v (by have := hr.1; omega))
   subst hre
   refine js (js (jr (jF jj jj (jl jj jj jj (jS (bLf jj jj) (jn (jf jj (je (js (jr (ja jj (ja jj (jn (ji ?_))))))))))))))
   exact retG2 rfl (.tmp rfl) (.tmp rfl) (PLe.refl _) ⟨.inl ⟨_, rfl, PsLe.refl _⟩, trivial⟩
end
end Go.Proofs.YtdieokoenhncfaaGreatDoor

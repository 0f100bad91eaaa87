import Derived.Test.YtpiflllcjgpkhaaGreatDoorLeast
import Derived.Test.YtpiflllcjgpkhaaGreatDoorJac
set_option maxRecDepth 3000
namespace Go.Proofs.YtpiflllcjgpkhaaGreatDoor
open Go.RowKit Num

theorem tmod_res (a n : Int) : (a.tmod n + n) % n = a % n := by
  have h1 := Int.tmod_add_mul_tdiv a n
  have : a.tmod n + n = a + n * (1 - a.tdiv n) := by rw [Int.mul_sub]; omega
  rw [this, Int.add_mul_emod_self_left]
set_option maxHeartbeats 400000 in
theorem residue_any (a n : Int) (w : World) (h3 : 1 ≤ n) (h4 : n ≤ 4294967296) :
    Calls Tryz.prog 41 #[.int .i64 a, .int .i64 n] w fun e w' => e = .returned (.int .i64 (a % n)) ∧ w = w' := by
  have hl := Int.lt_tmod_of_pos a (show 0 < n by omega)
  have hu := Int.tmod_lt_of_pos a (show 0 < n by omega)
  have HR := Lib.hid (tmod_res a n)
  go_enter Tryz.func41, Tryz.ntmps41
  go_wp2
  go_ret
  exact ⟨ret_int HR.out, rfl⟩

/-! ### Powers modulo m -/
theorem castmul2_le {a b : Nat} {c : Nat} (h : a * b ≤ c) : (a : Int) * (b : Int) ≤ (c : Int) := by exact_mod_cast h
/-! ### The program's symbol, by reciprocity -/
theorem kr_half (a : Nat) {n : Nat} (hn : n % 2 = 1) (ha : a % 2 = 0) : kr a n = chi8 n * kr (a / 2 : Nat) n := by
  rw [← kr_2 hn, ← kr_mul_top _ _ (by omega)]
  congr 1
  omega
theorem kr_flip {a n : Nat} (ha : a % 2 = 1) (hn : n % 2 = 1) : kr a n = sg a n * kr (n % a : Nat) a := by
  rw [kr_swap ha hn]
  congr 1
  refine kr_mod _ _ ha ?_
  rw [Int.natCast_emod]
  exact Int.dvd_self_sub_emod
/-- What the loop keeps. -/
def JInv (a n : Nat) (s : Int) (A N : Nat) : Prop := s * kr a n = kr A N
theorem JInv.half_same {a n A N : Nat} {s : Int} (h : JInv a n s A N) (hn : n % 2 = 1) (ha : a % 2 = 0) (h8 : n % 8 = 1 ∨ n % 8 = 7) : JInv (a / 2) n s A N := by
  unfold JInv at *
  rw [kr_half a hn ha, chi8, if_pos h8, Int.one_mul] at h
  exact h
theorem JInv.half_neg {a n A N : Nat} {s : Int} (h : JInv a n s A N) (hn : n % 2 = 1) (ha : a % 2 = 0) (h8 : n % 8 = 3 ∨ n % 8 = 5) : JInv (a / 2) n (-s) A N := by
  unfold JInv at *
  rw [kr_half a hn ha, chi8, if_neg (by omega)] at h
  rw [← h, Int.neg_mul, Int.neg_one_mul, Int.mul_neg]
theorem JInv.flip_neg {a n A N : Nat} {s : Int} (h : JInv a n s A N) (ha : a % 2 = 1) (hn : n % 2 = 1) (h4 : a % 4 = 3 ∧ n % 4 = 3) : JInv (n % a) a (-s) A N := by
  unfold JInv at *
  rw [kr_flip ha hn, sg_eq ha hn, if_pos h4] at h
  rw [← h, Int.neg_mul, Int.neg_one_mul, Int.mul_neg]
theorem JInv.flip_same {a n A N : Nat} {s : Int} (h : JInv a n s A N) (ha : a % 2 = 1) (hn : n % 2 = 1) (h4 : ¬ (a % 4 = 3 ∧ n % 4 = 3)) : JInv (n % a) a s A N := by
  unfold JInv at *
  rw [kr_flip ha hn, sg_eq ha hn, if_neg h4, Int.one_mul] at h
  exact h
theorem JInv.end_one {A N : Nat} {s : Int} (h : JInv 0 1 s A N) : kr A N = s := by
  unfold JInv at h
  rw [kr_one, Int.mul_one] at h
  exact h.symm
theorem JInv.end_zero {n A N : Nat} {s : Int} (h : JInv 0 n s A N) (hn : n % 2 = 1) (h1 : n ≠ 1) : kr A N = 0 := by
  unfold JInv at h
  rw [show ((0 : Nat) : Int) = 0 from rfl, kr_zero_top hn h1, Int.mul_zero] at h
  exact h.symm

set_option maxHeartbeats 1000000 in
theorem jacobi_any (A N : Nat) (w : World) (hA : A ≤ 2147483648) (hN : N ≤ 2147483648) (hodd : N % 2 = 1) :
    Calls Tryz.prog 42 #[.int .i64 A, .int .i64 N] w fun e w' => e = .returned (.int .i64 (kr A N)) ∧ w = w' := by
  have HO := Lib.hid hodd
  clear hodd
  go_enter Tryz.func42, Tryz.ntmps42
  go_wp2
  go_loopg [0, 1, 5] A (fun g s0 s1 s5 wr => ∃ (a n : Nat) (s : Int), a ≤ g ∧ a ≤ 2147483648 ∧ n ≤ 2147483648 ∧ -1 ≤ s ∧ s ≤ 1 ∧ s0 = .int .i64 a ∧ s1 = .int .i64 n ∧ s5 = .int .i64 s ∧ w = wr ∧ n % 2 = 1 ∧ JInv a n s A N)
  case atStart => exact ⟨A, N, 1, by omega, hA, hN, by omega, by omega, rfl, rfl, rfl, rfl, HO.out, by unfold JInv; rw [Int.one_mul]⟩
  case round =>
    obtain ⟨a, n, s, hag, ha, hn, hs1, hs2, rfl, rfl, rfl, rfl, hno, HI⟩ := hrel
    have HNO := Lib.hid hno
    clear hno
    obtain ⟨go, rfl⟩ : ∃ go : Nat, go = gk := ⟨_, rfl⟩
    by_cases h0 : a = 0
    · subst h0
      by_cases h1 : n = 1
      · subst h1
        have HE := Lib.hid HI.end_one
        go_wp2
        go_ret
        exact ⟨ret_int HE.out.symm, rfl⟩
      · have hb : ((n : Int) != 1) = true := by rw [bne_iff_ne]; omega
        have HE := Lib.hid (HI.end_zero HNO.out h1)
        clear h1
        go_wp2
        go_ret
        exact ⟨ret_int HE.out.symm, rfl⟩
    · have hb : ((a : Int) != 0) = true := by rw [bne_iff_ne]; omega
      have hpos : 1 ≤ a := by omega
      clear h0
      go_wp2
      go_loopg [0, 5] a (fun g s0 s5 wr => ∃ (a' : Nat) (s : Int), a' ≤ g ∧ 1 ≤ a' ∧ a' ≤ a ∧ -1 ≤ s ∧ s ≤ 1 ∧ s0 = .int .i64 a' ∧ s5 = .int .i64 s ∧ w = wr ∧ JInv a' n s A N)
      case atStart => exact ⟨a, s, by omega, by omega, by omega, by omega, by omega, rfl, rfl, rfl, HI⟩
      case round =>
        clear HI hs1 hs2
        obtain ⟨a', s, hag', hpos', hle, hs1, hs2, rfl, rfl, rfl, HI⟩ := hrel
        have hno := HNO.out
        rcases Nat.mod_two_eq_zero_or_one a' with he | he
        · have hb2 : ((a' : Int) % 2 == 0) = true := by rw [beq_iff_eq]; omega
          have h2a : 2 ≤ a' := by omega
          have hn8 : (n % 8 = 3 ∧ ((n : Int) % 8 == 3) = true) ∨ (((n : Int) % 8 == 3) = false ∧ n % 8 = 5 ∧ ((n : Int) % 8 == 5) = true) ∨ (((n : Int) % 8 == 3) = false ∧ ((n : Int) % 8 == 5) = false ∧ (n % 8 = 1 ∨ n % 8 = 7)) := by
            simp only [beq_iff_eq, beq_eq_false_iff_ne]; omega
          rcases hn8 with ⟨h8, b3⟩ | ⟨b3, h8, b5⟩ | ⟨b3, b5, h8⟩
          · have HE := Lib.hid (HI.half_neg hno he (.inl h8))
            clear h8 he hno HI
            go_wp2
            go_roundg (a' / 2)
            case measure => omega
            case rel => exact ⟨a' / 2, -s, by omega, by omega, by omega, by omega, by omega, by go_num, rfl, rfl, HE.out⟩
          · have HE := Lib.hid (HI.half_neg hno he (.inr h8))
            clear h8 he hno HI
            go_wp2
            go_roundg (a' / 2)
            case measure => omega
            case rel => exact ⟨a' / 2, -s, by omega, by omega, by omega, by omega, by omega, by go_num, rfl, rfl, HE.out⟩
          · have HE := Lib.hid (HI.half_same hno he h8)
            clear h8 he hno HI
            go_wp2
            go_roundg (a' / 2)
            case measure => omega
            case rel => exact ⟨a' / 2, s, by omega, by omega, by omega, by omega, by omega, by go_num, rfl, rfl, HE.out⟩
        · have hb2 : ((a' : Int) % 2 == 0) = false := by rw [beq_eq_false_iff_ne]; omega
          have h4 : (a' % 4 = 3 ∧ n % 4 = 3 ∧ ((a' : Int) % 4 == 3) = true ∧ ((n : Int) % 4 == 3) = true) ∨ (¬ (a' % 4 = 3 ∧ n % 4 = 3) ∧ ((a' : Int) % 4 == 3) = true ∧ ((n : Int) % 4 == 3) = false) ∨ (¬ (a' % 4 = 3 ∧ n % 4 = 3) ∧ ((a' : Int) % 4 == 3) = false) := by
            simp only [beq_iff_eq, beq_eq_false_iff_ne]; omega
          have hlt : n % a' < a' := Nat.mod_lt _ (by omega)
          have HE2 := Lib.hid he
          rcases h4 with ⟨q1, q2, b3, b4⟩ | ⟨q1, b3, b4⟩ | ⟨q1, b3⟩
          · have HE := Lib.hid (HI.flip_neg he hno ⟨q1, q2⟩)
            clear q1 q2 he hno HI
            go_wp2
            go_roundg (n % a')
            case measure => omega
            case rel => exact ⟨n % a', a', -s, by omega, by omega, by omega, by omega, by omega, by go_num, rfl, rfl, rfl, HE2.out, HE.out⟩
          · have HE := Lib.hid (HI.flip_same he hno q1)
            clear q1 he hno HI
            go_wp2
            go_roundg (n % a')
            case measure => omega
            case rel => exact ⟨n % a', a', s, by omega, by omega, by omega, by omega, by omega, by go_num, rfl, rfl, rfl, HE2.out, HE.out⟩
          · have HE := Lib.hid (HI.flip_same he hno q1)
            clear q1 he hno HI
            go_wp2
            go_roundg (n % a')
            case measure => omega
            case rel => exact ⟨n % a', a', s, by omega, by omega, by omega, by omega, by omega, by go_num, rfl, rfl, rfl, HE2.out, HE.out⟩

def InR (a : Int) : Prop := -2147483647 ≤ a ∧ a ≤ 2147483647
theorem krZ_zero_one {a : Int} (h : a = 1 ∨ a = -1) : krZ a 0 = 1 := by unfold krZ; rw [if_pos rfl, if_pos h]
theorem krZ_zero_zero {a : Int} (h : ¬ (a = 1 ∨ a = -1)) : krZ a 0 = 0 := by unfold krZ; rw [if_pos rfl, if_neg h]
/-- What the loop over the factors 2 keeps. -/
def KInv (a : Int) (m : Nat) (s : Int) (n : Int) : Prop := s * kr a m = krZ a n
theorem KInv.start_neg {a n : Int} (hn : n < 0) (ha : a < 0) : KInv a n.natAbs (-1) n := by
  unfold KInv krZ; rw [if_neg (by omega), if_pos ⟨hn, ha⟩]
theorem KInv.start_pos {a n : Int} (hn : n ≠ 0) (ha : ¬ (n < 0 ∧ a < 0)) : KInv a n.natAbs 1 n := by
  unfold KInv krZ; rw [if_neg hn, if_neg ha]
theorem kr_double (a : Int) {m : Nat} (hm : 1 ≤ m) (h : m % 2 = 0) : kr a m = two a * kr a (m / 2) := by
  rw [← kr_two a (by omega)]
  congr 1
  omega
theorem KInv.zero {a n : Int} {m : Nat} {s : Int} (h : KInv a m s n) (hm : 1 ≤ m) (h2 : m % 2 = 0) (ha : a % 2 = 0) : krZ a n = 0 := by
  unfold KInv at h
  rw [kr_double a hm h2, two, if_neg (by omega), if_neg (by omega), Int.zero_mul, Int.mul_zero] at h
  exact h.symm
theorem KInv.neg {a n : Int} {m : Nat} {s : Int} (h : KInv a m s n) (hm : 1 ≤ m) (h2 : m % 2 = 0) (ha : a % 8 = 3 ∨ a % 8 = 5) : KInv a (m / 2) (-s) n := by
  unfold KInv at *
  rw [kr_double a hm h2, two, if_neg (by omega), if_pos ha] at h
  rw [← h, Int.neg_mul, Int.neg_one_mul, Int.mul_neg]
theorem KInv.same {a n : Int} {m : Nat} {s : Int} (h : KInv a m s n) (hm : 1 ≤ m) (h2 : m % 2 = 0) (ha : a % 8 = 1 ∨ a % 8 = 7) : KInv a (m / 2) s n := by
  unfold KInv at *
  rw [kr_double a hm h2, two, if_pos ha, Int.one_mul] at h
  exact h
theorem KInv.fin {a n : Int} {m : Nat} {s : Int} (h : KInv a m s n) (h2 : m % 2 = 1) : s * kr ((a % (m : Int)).toNat : Nat) m = krZ a n := by
  unfold KInv at h
  rw [← h]
  congr 1
  refine kr_mod _ _ h2 ?_
  rw [Int.toNat_of_nonneg (Int.emod_nonneg _ (by omega))]
  have := Int.dvd_neg.2 (Int.dvd_self_sub_emod (x := a) (m := (m : Int)))
  rwa [Int.neg_sub] at this

set_option maxHeartbeats 1000000 in
theorem kron_any (a n : Int) (w : World) (ha : InR a) (hn : InR n) :
    Calls Tryz.prog 20 #[.int .i64 a, .int .i64 n] w fun e w' => e = .returned (.tuple #[.int .i64 (krZ a n), .int .i64 0]) ∧ w = w' := by
  unfold InR at ha hn
  obtain ⟨a1, a2⟩ := ha
  obtain ⟨n1, n2⟩ := hn
  by_cases h0 : n = 0
  · subst h0
    by_cases e1 : a = 1
    · subst e1
      have H := Lib.hid (krZ_zero_one (a := 1) (.inl rfl))
      go_enter Tryz.func20, Tryz.ntmps20
      go_wp2_with fail
      go_ret2
      exact ⟨by rw [H.out]; rfl, rfl⟩
    · by_cases e2 : a = -1
      · subst e2
        have H := Lib.hid (krZ_zero_one (a := -1) (.inr rfl))
        go_enter Tryz.func20, Tryz.ntmps20
        go_wp2_with fail
        go_ret2
        exact ⟨by rw [H.out]; rfl, rfl⟩
      · have H := Lib.hid (krZ_zero_zero (a := a) (by omega))
        have b1 : (a == 1) = false := by rw [beq_eq_false_iff_ne]; exact e1
        have b2 : (a == -1) = false := by rw [beq_eq_false_iff_ne]; exact e2
        clear e1 e2
        go_enter Tryz.func20, Tryz.ntmps20
        go_wp2_with fail
        go_ret2
        exact ⟨by rw [H.out]; rfl, rfl⟩
  · have b0 : (n == 0) = false := by rw [beq_eq_false_iff_ne]; exact h0
    have hsg : ∃ (m : Nat) (s : Int), 1 ≤ m ∧ m ≤ 2147483647 ∧ -1 ≤ s ∧ s ≤ 1 ∧ KInv a m s n ∧ (n < 0 → (m : Int) = -n) ∧ (0 ≤ n → (m : Int) = n) ∧ (n < 0 → a < 0 → s = -1) ∧ (¬ (n < 0 ∧ a < 0) → s = 1) := by
      by_cases hc : n < 0 ∧ a < 0
      · exact ⟨n.natAbs, -1, by omega, by omega, by omega, by omega, KInv.start_neg hc.1 hc.2, by omega, by omega, by omega, fun h => absurd hc h⟩
      · exact ⟨n.natAbs, 1, by omega, by omega, by omega, by omega, KInv.start_pos h0 hc, by omega, by omega, by omega, fun _ => rfl⟩
    obtain ⟨m, s, m1, m2, s1, s2, HK, em, ep, es, es'⟩ := hsg
    have EM := Lib.hid (show (n < 0 → (m : Int) = -n) ∧ (0 ≤ n → (m : Int) = n) ∧ (n < 0 → a < 0 → s = -1) ∧ (¬ (n < 0 ∧ a < 0) → s = 1) from ⟨em, ep, es, es'⟩)
    clear em ep es es'
    have hways : (n < 0 ∧ a < 0) ∨ (n < 0 ∧ ¬ a < 0) ∨ ¬ n < 0 := by omega
    rcases hways with ⟨hn0, ha0⟩ | ⟨hn0, ha0⟩ | hn0
    all_goals
      go_enter Tryz.func20, Tryz.ntmps20
      go_wp2_with fail
      go_loopg [1, 4, 5, 6, 7] m (fun g s1 s4 s5 s6 s7 wr => ∃ (m : Nat) (s : Int), m ≤ g ∧ 1 ≤ m ∧ m ≤ 2147483647 ∧ -1 ≤ s ∧ s ≤ 1 ∧ s1 = .int .i64 m ∧ s6 = .int .i64 s ∧ w = wr ∧ KInv a m s n)
      case atStart =>
        obtain ⟨em, ep, es, es'⟩ := EM.out
        first
          | exact ⟨m, s, by omega, m1, m2, s1, s2, by rw [em (by omega)], by rw [es (by omega) (by omega)], rfl, HK⟩
          | exact ⟨m, s, by omega, m1, m2, s1, s2, by rw [em (by omega)], by rw [es' (by omega)], rfl, HK⟩
          | exact ⟨m, s, by omega, m1, m2, s1, s2, by rw [ep (by omega)], by rw [es' (by omega)], rfl, HK⟩
      case round =>
        clear EM HK m1 m2 s1 s2
        obtain ⟨m, s, hmg, m1, m2, s1, s2, rfl, rfl, rfl, HK⟩ := hrel
        rcases Nat.mod_two_eq_zero_or_one m with he | he
        · have hb2 : ((m : Int) % 2 == 0) = true := by rw [beq_iff_eq]; omega
          have m3 : 2 ≤ m := by omega
          by_cases hae : a % 2 = 0
          · have hb3 : (a.tmod 2 == 0) = true := by rw [beq_iff_eq]; exact Int.tmod_eq_zero_of_dvd (by omega)
            have hb4 : (a % 2 == 0) = true := by rw [beq_iff_eq]; exact hae
            have H := Lib.hid (HK.zero m1 he hae)
            clear he hae HK
            go_wp2_with fail
            go_ret2
            exact ⟨by rw [H.out]; rfl, rfl⟩
          · have hb3 : (a.tmod 2 == 0) = false := by rw [beq_eq_false_iff_ne]; intro h; have := Int.dvd_of_tmod_eq_zero h; omega
            have hb4 : (a % 2 == 0) = false := by rw [beq_eq_false_iff_ne]; exact hae
            have h8 : (a % 8 = 3 ∧ (a % 8 == 3) = true) ∨ ((a % 8 == 3) = false ∧ a % 8 = 5 ∧ (a % 8 == 5) = true) ∨ ((a % 8 == 3) = false ∧ (a % 8 == 5) = false ∧ (a % 8 = 1 ∨ a % 8 = 7)) := by
              simp only [beq_iff_eq, beq_eq_false_iff_ne]; omega
            rcases h8 with ⟨h8, b3⟩ | ⟨b3, h8, b5⟩ | ⟨b3, b5, h8⟩
            · have HE := Lib.hid (HK.neg m1 he (.inl h8))
              clear h8 he hae HK
              go_wp2_with (go_at_call 41; refine (residue_any _ _ _ (by omega) (by omega)).mono ?_; rintro e w' ⟨rfl, rfl⟩)
              go_roundg (m / 2)
              case measure => omega
              case rel => exact ⟨m / 2, -s, by omega, by omega, by omega, by omega, by omega, by go_num, rfl, rfl, HE.out⟩
            · have HE := Lib.hid (HK.neg m1 he (.inr h8))
              clear h8 he hae HK
              go_wp2_with (go_at_call 41; refine (residue_any _ _ _ (by omega) (by omega)).mono ?_; rintro e w' ⟨rfl, rfl⟩)
              go_roundg (m / 2)
              case measure => omega
              case rel => exact ⟨m / 2, -s, by omega, by omega, by omega, by omega, by omega, by go_num, rfl, rfl, HE.out⟩
            · have HE := Lib.hid (HK.same m1 he h8)
              clear h8 he hae HK
              go_wp2_with (go_at_call 41; refine (residue_any _ _ _ (by omega) (by omega)).mono ?_; rintro e w' ⟨rfl, rfl⟩)
              go_roundg (m / 2)
              case measure => omega
              case rel => exact ⟨m / 2, s, by omega, by omega, by omega, by omega, by omega, by go_num, rfl, rfl, HE.out⟩
        · have hb2 : ((m : Int) % 2 == 0) = false := by rw [beq_eq_false_iff_ne]; omega
          have H := Lib.hid (HK.fin he)
          obtain ⟨r, hr⟩ : ∃ r : Nat, (a % (m : Int)).toNat = r := ⟨_, rfl⟩
          have hri : a % (m : Int) = (r : Int) := by have := Int.emod_nonneg a (show (m : Int) ≠ 0 by omega); omega
          have hrm : r < m := by have := Int.emod_lt_of_pos a (show 0 < (m : Int) by omega); omega
          rw [hr] at H
          have HR := Lib.hid hri
          have HE := Lib.hid he
          have hk3 := kr_three r m
          have kb1 : -1 ≤ kr r m := by omega
          have kb2 : kr r m ≤ 1 := by omega
          have pb : -1 ≤ s * kr r m ∧ s * kr r m ≤ 1 := by rcases hk3 with h | h | h <;> rw [h] <;> omega
          obtain ⟨pb1, pb2⟩ := pb
          clear hr hri he HK hk3
          go_wp2_with (first | (go_at_call 41; refine (residue_any _ _ _ (by omega) (by omega)).mono ?_; rintro e w' ⟨rfl, rfl⟩; rw [HR.out]) | (go_at_call 42; refine (jacobi_any _ _ _ (by omega) (by omega) HE.out).mono ?_; rintro e w' ⟨rfl, rfl⟩))
          go_ret2
          exact ⟨by rw [← H.out]; rfl, rfl⟩
end Go.Proofs.YtpiflllcjgpkhaaGreatDoor

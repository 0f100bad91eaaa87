/- Several texts, joined. -/
import Derived.Test.YtfmjdlogjmofbaaGreatDoorLeast
import Derived.Test.YtfmjdlogjmofbaaGreatDoorJac
import Derived.Test.YtfmjdlogjmofbaaGreatDoorMem
import Derived.Test.YtfmjdlogjmofbaaGreatDoorW
set_option maxRecDepth 3000
namespace Go.Proofs.YtfmjdlogjmofbaaGreatDoor
section
open Go.RowKit Num
theorem gZz (a n : Int) : (a.tmod n + n) % n = a % n := by
 have h1 := Int.tmod_add_mul_tdiv a n
 have : a.tmod n + n = a + n * (1 - a.tdiv n) := by rw [Int.mul_sub]; omega
 rw [this, Int.add_mul_emod_self_left]
theorem tmod_up {a n : Int} (h : 1 ≤ n) (hl : a.tmod n < 0) : a.tmod n + n = a % n := by
 have h1 := Int.lt_tmod_of_pos a (show 0 < n by omega)
 rw [← gZz, Int.emod_eq_of_lt oM oM]
theorem lZt {a n : Int} (h : 1 ≤ n) (hl : 0 ≤ a.tmod n) : a.tmod n = a % n := by
 have h2 := Int.tmod_lt_of_pos a (show 0 < n by omega)
 rw [← gZz, Int.add_emod_right, Int.emod_eq_of_lt hl h2]
set_option maxHeartbeats 400000 in
theorem bZP (a n : Int) (w : World) (h3 : 1 ≤ n) (h4 : n ≤ 4294967296) :
  Calls Tryz.prog 91 #[.int .i64 a, .int .i64 n] w fun e w' => e = .returned (.int .i64 (a % n)) ∧ w = w' := by
 have hl := Int.lt_tmod_of_pos a (show 0 < n by omega)
 have hu := Int.tmod_lt_of_pos a (show 0 < n by omega)
 have HR := Lib.hid (gZz a n)
 go_enter Tryz.func91, Tryz.ntmps91
 go_wp2
 go_ret
 exact ⟨cZV HR.out, rfl⟩
set_option maxHeartbeats 400000 in
theorem mZx (a n : Int) (w : World) (h3 : 1 ≤ n) (h4 : n ≤ 4294967296) :
  Calls Tryz.prog 139 #[.int .i64 a, .int .i64 n] w fun e w' => e = .returned (.int .i64 (a % n)) ∧ w = w' := by
 have hl := Int.lt_tmod_of_pos a (show 0 < n by omega)
 have hu := Int.tmod_lt_of_pos a (show 0 < n by omega)
 by_cases hs : a.tmod n < 0
 ·have HR := Lib.hid (tmod_up h3 hs)
  go_enter Tryz.func139, Tryz.ntmps139
  go_wp2
  go_ret
  exact ⟨cZV HR.out, rfl⟩
 ·have HR := Lib.hid (lZt (a := a) h3 oM)
  go_enter Tryz.func139, Tryz.ntmps139
  go_wp2
  go_ret
  exact ⟨cZV HR.out, rfl⟩
theorem mp_odd (o x e m : Nat) (h : e % 2 = 1) : ((o * x % m) * (x * x % m) ^ (e / 2)) % m = (o * x ^ e) % m := by
 have : x ^ e = x * (x * x) ^ (e / 2) := by
  rw [← Nat.pow_two, ← Nat.pow_mul]
  conv => lhs; rw [show e = 2 * (e / 2) + 1 by omega, Nat.pow_succ]
  rw [Nat.mul_comm]
 rw [this, ← Nat.mul_assoc, Nat.mul_mod, Nat.mod_mod, ← Nat.pow_mod, ← Nat.mul_mod]
theorem mp_even (o x e m : Nat) (h : e % 2 = 0) : (o * (x * x % m) ^ (e / 2)) % m = (o * x ^ e) % m := by
 have : x ^ e = (x * x) ^ (e / 2) := by
  rw [← Nat.pow_two, ← Nat.pow_mul]
  congr 1; omega
 rw [this, Nat.mul_mod, ← Nat.pow_mod, ← Nat.mul_mod]
theorem dZK {a b : Nat} {c : Nat} (h : a * b ≤ c) : (a : Int) * (b : Int) ≤ (c : Int) := by exact_mod_cast h
theorem iZX (a b m : Nat) : (a : Int) * (b : Int) % (m : Int) = ((a * b % m : Nat) : Int) := by simp
set_option maxHeartbeats 800000 in
theorem kZO (a : Int) (E m : Nat) (w : World) (hm : 1 ≤ m) (hm2 : m ≤ 2147483648) (hE : E ≤ 4611686018427387904) :
  Calls Tryz.prog 138 #[.int .i64 a, .int .i64 E, .int .i64 m] w fun e w' => e = .returned (.int .i64 (((a % (m : Int)).toNat ^ E % m : Nat))) ∧ w = w' := by
 obtain ⟨x0, hx0⟩ : ∃ x0 : Nat, (a % (m : Int)).toNat = x0 := ⟨_, rfl⟩
 have hx0i : a % (m : Int) = (x0 : Int) := by have := Int.emod_nonneg a (show (m : Int) ≠ 0 by omega); omega
 have hx0m : x0 < m := by have := Int.emod_lt_of_pos a (show 0 < (m : Int) by omega); omega
 rw [hx0]
 have HX := Lib.hid hx0i
 clear hx0 hx0i
 have h1m : ((1 : Int) % (m : Int)) = ((1 % m : Nat) : Int) := by simp
 have H1 := Lib.hid h1m
 clear h1m
 go_enter Tryz.func138, Tryz.ntmps138
 go_wp2_with (go_at_call 139; refine (mZx _ _ _ oM oM).mono ?_; rintro e w' ⟨rfl, rfl⟩; rw [HX.out])
 go_loopg [0, 1, 7] E (fun g s0 s1 s7 wr => ∃ x e o : Nat, e ≤ g ∧ e ≤ E ∧ x < m ∧ o < m ∧ s0 = .int .i64 x ∧ s1 = .int .i64 e ∧ s7 = .int .i64 o ∧ w = wr ∧ (o * x ^ e) % m = x0 ^ E % m)
 case atStart => exact ⟨x0, E, 1 % m, oM, oM, hx0m, Nat.mod_lt _ oM, rfl, rfl, by rw [H1.out], rfl, by rw [Nat.mod_mul_mod, Nat.one_mul]⟩
 case round =>
  obtain ⟨x, e, o, heg, heE, hxm, hom, rfl, rfl, rfl, rfl, hinv⟩ := hrel
  have HI := Lib.hid hinv
  clear hinv
  have b1 : o * x ≤ 4611686018427387904 := Nat.mul_le_mul (show o ≤ 2147483648 by omega) (show x ≤ 2147483648 by omega)
  have b2 : x * x ≤ 4611686018427387904 := Nat.mul_le_mul (show x ≤ 2147483648 by omega) (show x ≤ 2147483648 by omega)
  have c1 : (o : Int) * (x : Int) ≤ 4611686018427387904 := dZK b1
  have c2 : (x : Int) * (x : Int) ≤ 4611686018427387904 := dZK b2
  have p1 : 0 ≤ (o : Int) * (x : Int) := Int.mul_nonneg oM oM
  have p2 : 0 ≤ (x : Int) * (x : Int) := Int.mul_nonneg oM oM
  clear b1 b2
  by_cases he : e = 0
  ·subst he
   go_wp2
   go_ret
   exact ⟨cZV (by rw [← HI.out, Nat.pow_zero, Nat.mul_one, Nat.mod_eq_of_lt hom]), rfl⟩
  ·have he' : (0 : Int) < (e : Int) := oM
   rcases Nat.mod_two_eq_zero_or_one e with ho | ho
   ·have hb : ((e : Int) % 2 == 1) = false := by rw [beq_eq_false_iff_ne]; omega
    have HN := Lib.hid (mp_even o x e m ho)
    have HO := Lib.hid ho
    clear ho
    go_wp2
    go_roundg (e / 2)
    case measure => omega
    case rel => exact ⟨x * x % m, e / 2, o, oM, oM, Nat.mod_lt _ oM, hom, by rw [iZX], by go_num, rfl, rfl, HN.out.trans HI.out⟩
   ·have hb : ((e : Int) % 2 == 1) = true := by rw [beq_iff_eq]; omega
    have HN := Lib.hid (mp_odd o x e m ho)
    have HO := Lib.hid ho
    clear ho
    go_wp2
    go_roundg (e / 2)
    case measure => omega
    case rel => exact ⟨x * x % m, e / 2, o * x % m, oM, oM, Nat.mod_lt _ oM, Nat.mod_lt _ oM, by rw [iZX], by go_num, by rw [iZX], rfl, HN.out.trans HI.out⟩
set_option maxHeartbeats 400000 in
theorem hZO (a : Int) (p : Nat) (w : World) (h1 : 1 ≤ p) (h2 : p ≤ 2147483648) :
  Calls Tryz.prog 80 #[.int .i64 a, .int .i64 p] w fun e w' => e = .returned (.int .i64 (legZ a p)) ∧ w = w' := by
 have c := kZO a ((p - 1) / 2) p w h1 h2 oM
 rw [show (((p - 1) / 2 : Nat) : Int) = ((p : Int) - 1) / 2 by omega] at c
 obtain ⟨r, hr⟩ : ∃ r, (a % (p : Int)).toNat ^ ((p - 1) / 2) % p = r := ⟨_, rfl⟩
 have HT : Hid (legZ a p = if r = 0 then 0 else if r = 1 then 1 else -1) := by show legZ a p = _; unfold legZ leg; rw [hr]
 rw [hr] at c
 have C := Lib.hid c
 clear c hr
 by_cases r0 : r = 0
 ·subst r0
  go_enter Tryz.func80, Tryz.ntmps80
  go_wp2_with (go_at_call 138; refine C.out.mono ?_; rintro e w' ⟨rfl, rfl⟩)
  go_ret
  exact ⟨cZV (by rw [HT.out]; rfl), rfl⟩
 ·by_cases r1 : r = 1
  ·subst r1
   go_enter Tryz.func80, Tryz.ntmps80
   go_wp2_with (go_at_call 138; refine C.out.mono ?_; rintro e w' ⟨rfl, rfl⟩)
   go_ret
   exact ⟨cZV (by rw [HT.out]; rfl), rfl⟩
  ·have b0 : ((r : Int) == 0) = false := by rw [beq_eq_false_iff_ne]; omega
   have b1 : ((r : Int) == 1) = false := by rw [beq_eq_false_iff_ne]; omega
   have HT2 : Hid (legZ a p = -1) := by have := HT.out; rwa [if_neg r0, if_neg r1] at this
   clear r0 r1 HT
   go_enter Tryz.func80, Tryz.ntmps80
   go_wp2_with (go_at_call 138; refine C.out.mono ?_; rintro e w' ⟨rfl, rfl⟩)
   go_ret
   exact ⟨cZV (by rw [HT2.out]), rfl⟩
theorem mZE (a : Nat) {n : Nat} (hn : n % 2 = 1) (ha : a % 2 = 0) : kr a n = chi8 n * kr (a / 2 : Nat) n := by
 rw [← kr_2 hn, ← kZR _ _ oM]
 congr 1
 omega
theorem mZF {a n : Nat} (ha : a % 2 = 1) (hn : n % 2 = 1) : kr a n = sg a n * kr (n % a : Nat) a := by
 rw [kr_swap ha hn]
 congr 1
 refine qZv _ _ ha ?_
 rw [Int.natCast_emod]
 exact Int.dvd_self_sub_emod
def JInv (a n : Nat) (s : Int) (A N : Nat) : Prop := s * kr a n = kr A N
theorem JInv.half_same {a n A N : Nat} {s : Int} (h : JInv a n s A N) (hn : n % 2 = 1) (ha : a % 2 = 0) (h8 : n % 8 = 1 ∨ n % 8 = 7) : JInv (a / 2) n s A N := by
 unfold JInv at *
 rw [mZE a hn ha, chi8, if_pos h8, Int.one_mul] at h
 exact h
theorem JInv.half_neg {a n A N : Nat} {s : Int} (h : JInv a n s A N) (hn : n % 2 = 1) (ha : a % 2 = 0) (h8 : n % 8 = 3 ∨ n % 8 = 5) : JInv (a / 2) n (-s) A N := by
 unfold JInv at *
 rw [mZE a hn ha, chi8, if_neg oM] at h
 rw [← h, Int.neg_mul, Int.neg_one_mul, Int.mul_neg]
theorem JInv.flip_neg {a n A N : Nat} {s : Int} (h : JInv a n s A N) (ha : a % 2 = 1) (hn : n % 2 = 1) (h4 : a % 4 = 3 ∧ n % 4 = 3) : JInv (n % a) a (-s) A N := by
 unfold JInv at *
 rw [mZF ha hn, sg_eq ha hn, if_pos h4] at h
 rw [← h, Int.neg_mul, Int.neg_one_mul, Int.mul_neg]
theorem JInv.flip_same {a n A N : Nat} {s : Int} (h : JInv a n s A N) (ha : a % 2 = 1) (hn : n % 2 = 1) (h4 : ¬ (a % 4 = 3 ∧ n % 4 = 3)) : JInv (n % a) a s A N := by
 unfold JInv at *
 rw [mZF ha hn, sg_eq ha hn, if_neg h4, Int.one_mul] at h
 exact h
theorem JInv.end_one {A N : Nat} {s : Int} (h : JInv 0 1 s A N) : kr A N = s := by
 unfold JInv at h
 rw [kr_one, Int.mul_one] at h
 exact h.symm
theorem JInv.end_zero {n A N : Nat} {s : Int} (h : JInv 0 n s A N) (hn : n % 2 = 1) (h1 : n ≠ 1) : kr A N = 0 := by
 unfold JInv at h
 rw [show ((0 : Nat) : Int) = 0 from rfl, iZG hn h1, Int.mul_zero] at h
 exact h.symm
set_option maxHeartbeats 1000000 in
theorem kZT (A N : Nat) (w : World) (hA : A ≤ 2147483648) (hN : N ≤ 2147483648) (hodd : N % 2 = 1) :
  Calls Tryz.prog 92 #[.int .i64 A, .int .i64 N] w fun e w' => e = .returned (.int .i64 (kr A N)) ∧ w = w' := by
 have HO := Lib.hid hodd
 clear hodd
 go_enter Tryz.func92, Tryz.ntmps92
 go_wp2
 go_loopg [0, 1, 5] A (fun g s0 s1 s5 wr => ∃ (a n : Nat) (s : Int), a ≤ g ∧ a ≤ 2147483648 ∧ n ≤ 2147483648 ∧ -1 ≤ s ∧ s ≤ 1 ∧ s0 = .int .i64 a ∧ s1 = .int .i64 n ∧ s5 = .int .i64 s ∧ w = wr ∧ n % 2 = 1 ∧ JInv a n s A N)
 case atStart => exact ⟨A, N, 1, oM, hA, hN, oM, oM, rfl, rfl, rfl, rfl, HO.out, by unfold JInv; rw [Int.one_mul]⟩
 case round =>
  obtain ⟨a, n, s, hag, ha, hn, hs1, hs2, rfl, rfl, rfl, rfl, hno, HI⟩ := hrel
  have HNO := Lib.hid hno
  clear hno
  obtain ⟨go, rfl⟩ : ∃ go : Nat, go = gk := ⟨_, rfl⟩
  by_cases h0 : a = 0
  ·subst h0
   by_cases h1 : n = 1
   ·subst h1
    have HE := Lib.hid HI.end_one
    go_wp2
    go_ret
    exact ⟨cZV HE.out.symm, rfl⟩
   ·have hb : ((n : Int) != 1) = true := by rw [bne_iff_ne]; omega
    have HE := Lib.hid (HI.end_zero HNO.out h1)
    clear h1
    go_wp2
    go_ret
    exact ⟨cZV HE.out.symm, rfl⟩
  ·have hb : ((a : Int) != 0) = true := by rw [bne_iff_ne]; omega
   have hpos : 1 ≤ a := oM
   clear h0
   go_wp2
   go_loopg [0, 5] a (fun g s0 s5 wr => ∃ (a' : Nat) (s : Int), a' ≤ g ∧ 1 ≤ a' ∧ a' ≤ a ∧ -1 ≤ s ∧ s ≤ 1 ∧ s0 = .int .i64 a' ∧ s5 = .int .i64 s ∧ w = wr ∧ JInv a' n s A N)
   case atStart => exact ⟨a, s, oM, oM, oM, oM, oM, rfl, rfl, rfl, HI⟩
   case round =>
    clear HI hs1 hs2
    obtain ⟨a', s, hag', hpos', hle, hs1, hs2, rfl, rfl, rfl, HI⟩ := hrel
    have hno := HNO.out
    rcases Nat.mod_two_eq_zero_or_one a' with he | he
    ·have hb2 : ((a' : Int) % 2 == 0) = true := by rw [beq_iff_eq]; omega
     have h2a : 2 ≤ a' := oM
     have hn8 : (n % 8 = 3 ∧ ((n : Int) % 8 == 3) = true) ∨ (((n : Int) % 8 == 3) = false ∧ n % 8 = 5 ∧ ((n : Int) % 8 == 5) = true) ∨ (((n : Int) % 8 == 3) = false ∧ ((n : Int) % 8 == 5) = false ∧ (n % 8 = 1 ∨ n % 8 = 7)) := by
      simp only [beq_iff_eq, beq_eq_false_iff_ne]; omega
     rcases hn8 with ⟨h8, b3⟩ | ⟨b3, h8, b5⟩ | ⟨b3, b5, h8⟩
     ·have HE := Lib.hid (HI.half_neg hno he (.inl h8))
      clear h8 he hno HI
      go_wp2
      go_roundg (a' / 2)
      case measure => omega
      case rel => exact ⟨a' / 2, -s, oM, oM, oM, oM, oM, by go_num, rfl, rfl, HE.out⟩
     ·have HE := Lib.hid (HI.half_neg hno he (.inr h8))
      clear h8 he hno HI
      go_wp2
      go_roundg (a' / 2)
      case measure => omega
      case rel => exact ⟨a' / 2, -s, oM, oM, oM, oM, oM, by go_num, rfl, rfl, HE.out⟩
     ·have HE := Lib.hid (HI.half_same hno he h8)
      clear h8 he hno HI
      go_wp2
      go_roundg (a' / 2)
      case measure => omega
      case rel => exact ⟨a' / 2, s, oM, oM, oM, oM, oM, by go_num, rfl, rfl, HE.out⟩
    ·have hb2 : ((a' : Int) % 2 == 0) = false := by rw [beq_eq_false_iff_ne]; omega
     have h4 : (a' % 4 = 3 ∧ n % 4 = 3 ∧ ((a' : Int) % 4 == 3) = true ∧ ((n : Int) % 4 == 3) = true) ∨ (¬ (a' % 4 = 3 ∧ n % 4 = 3) ∧ ((a' : Int) % 4 == 3) = true ∧ ((n : Int) % 4 == 3) = false) ∨ (¬ (a' % 4 = 3 ∧ n % 4 = 3) ∧ ((a' : Int) % 4 == 3) = false) := by
      simp only [beq_iff_eq, beq_eq_false_iff_ne]; omega
     have hlt : n % a' < a' := Nat.mod_lt _ oM
     have HE2 := Lib.hid he
     rcases h4 with ⟨q1, q2, b3, b4⟩ | ⟨q1, b3, b4⟩ | ⟨q1, b3⟩
     ·have HE := Lib.hid (HI.flip_neg he hno ⟨q1, q2⟩)
      clear q1 q2 he hno HI
      go_wp2
      go_roundg (n % a')
      case measure => omega
      case rel => exact ⟨n % a', a', -s, oM, oM, oM, oM, oM, by go_num, rfl, rfl, rfl, HE2.out, HE.out⟩
     ·have HE := Lib.hid (HI.flip_same he hno q1)
      clear q1 he hno HI
      go_wp2
      go_roundg (n % a')
      case measure => omega
      case rel => exact ⟨n % a', a', s, oM, oM, oM, oM, oM, by go_num, rfl, rfl, rfl, HE2.out, HE.out⟩
     ·have HE := Lib.hid (HI.flip_same he hno q1)
      clear q1 he hno HI
      go_wp2
      go_roundg (n % a')
      case measure => omega
      case rel => exact ⟨n % a', a', s, oM, oM, oM, oM, oM, by go_num, rfl, rfl, rfl, HE2.out, HE.out⟩
def InR (a : Int) : Prop := -2147483647 ≤ a ∧ a ≤ 2147483647
theorem eZI {a : Int} (h : a = 1 ∨ a = -1) : krZ a 0 = 1 := by unfold krZ; rw [if_pos rfl, if_pos h]
theorem gZN {a : Int} (h : ¬ (a = 1 ∨ a = -1)) : krZ a 0 = 0 := by unfold krZ; rw [if_pos rfl, if_neg h]
def KInv (a : Int) (m : Nat) (s : Int) (n : Int) : Prop := s * kr a m = krZ a n
theorem KInv.start_neg {a n : Int} (hn : n < 0) (ha : a < 0) : KInv a n.natAbs (-1) n := by
 unfold KInv krZ; rw [if_neg oM, if_pos ⟨hn, ha⟩]
theorem KInv.start_pos {a n : Int} (hn : n ≠ 0) (ha : ¬ (n < 0 ∧ a < 0)) : KInv a n.natAbs 1 n := by
 unfold KInv krZ; rw [if_neg hn, if_neg ha]
theorem fZ0 (a : Int) {m : Nat} (hm : 1 ≤ m) (h : m % 2 = 0) : kr a m = two a * kr a (m / 2) := by
 rw [← kr_two a oM]
 congr 1
 omega
theorem KInv.zero {a n : Int} {m : Nat} {s : Int} (h : KInv a m s n) (hm : 1 ≤ m) (h2 : m % 2 = 0) (ha : a % 2 = 0) : krZ a n = 0 := by
 unfold KInv at h
 rw [fZ0 a hm h2, two, if_neg oM, if_neg oM, Int.zero_mul, Int.mul_zero] at h
 exact h.symm
theorem KInv.neg {a n : Int} {m : Nat} {s : Int} (h : KInv a m s n) (hm : 1 ≤ m) (h2 : m % 2 = 0) (ha : a % 8 = 3 ∨ a % 8 = 5) : KInv a (m / 2) (-s) n := by
 unfold KInv at *
 rw [fZ0 a hm h2, two, if_neg oM, if_pos ha] at h
 rw [← h, Int.neg_mul, Int.neg_one_mul, Int.mul_neg]
theorem KInv.same {a n : Int} {m : Nat} {s : Int} (h : KInv a m s n) (hm : 1 ≤ m) (h2 : m % 2 = 0) (ha : a % 8 = 1 ∨ a % 8 = 7) : KInv a (m / 2) s n := by
 unfold KInv at *
 rw [fZ0 a hm h2, two, if_pos ha, Int.one_mul] at h
 exact h
theorem KInv.fin {a n : Int} {m : Nat} {s : Int} (h : KInv a m s n) (h2 : m % 2 = 1) : s * kr ((a % (m : Int)).toNat : Nat) m = krZ a n := by
 unfold KInv at h
 rw [← h]
 congr 1
 refine qZv _ _ h2 ?_
 rw [Int.toNat_of_nonneg (Int.emod_nonneg _ oM)]
 have := Int.dvd_neg.2 (Int.dvd_self_sub_emod (x := a) (m := (m : Int)))
 rwa [Int.neg_sub] at this
set_option maxHeartbeats 1000000 in
theorem oZJ (a n : Int) (w : World) (ha : InR a) (hn : InR n) :
  Calls Tryz.prog 35 #[.int .i64 a, .int .i64 n] w fun e w' => e = .returned (.tuple #[.int .i64 (krZ a n), .int .i64 0]) ∧ w = w' := by
 unfold InR at ha hn
 obtain ⟨a1, a2⟩ := ha
 obtain ⟨n1, n2⟩ := hn
 by_cases h0 : n = 0
 ·subst h0
  by_cases e1 : a = 1
  ·subst e1
   have H := Lib.hid (eZI (a := 1) (.inl rfl))
   go_enter Tryz.func35, Tryz.ntmps35
   go_wp2_with fail
   go_ret2
   exact ⟨by rw [H.out]; rfl, rfl⟩
  ·by_cases e2 : a = -1
   ·subst e2
    have H := Lib.hid (eZI (a := -1) (.inr rfl))
    go_enter Tryz.func35, Tryz.ntmps35
    go_wp2_with fail
    go_ret2
    exact ⟨by rw [H.out]; rfl, rfl⟩
   ·have H := Lib.hid (gZN (a := a) oM)
    have b1 : (a == 1) = false := by rw [beq_eq_false_iff_ne]; exact e1
    have b2 : (a == -1) = false := by rw [beq_eq_false_iff_ne]; exact e2
    clear e1 e2
    go_enter Tryz.func35, Tryz.ntmps35
    go_wp2_with fail
    go_ret2
    exact ⟨by rw [H.out]; rfl, rfl⟩
 ·have b0 : (n == 0) = false := by rw [beq_eq_false_iff_ne]; exact h0
  have hsg : ∃ (m : Nat) (s : Int), 1 ≤ m ∧ m ≤ 2147483647 ∧ -1 ≤ s ∧ s ≤ 1 ∧ KInv a m s n ∧ (n < 0 → (m : Int) = -n) ∧ (0 ≤ n → (m : Int) = n) ∧ (n < 0 → a < 0 → s = -1) ∧ (¬ (n < 0 ∧ a < 0) → s = 1) := by
   by_cases hc : n < 0 ∧ a < 0
   ·exact ⟨n.natAbs, -1, oM, oM, oM, oM, KInv.start_neg hc.1 hc.2, oM, oM, oM, fun h => absurd hc h⟩
   ·exact ⟨n.natAbs, 1, oM, oM, oM, oM, KInv.start_pos h0 hc, oM, oM, oM, fun _ => rfl⟩
  obtain ⟨m, s, m1, m2, s1, s2, HK, em, ep, es, es'⟩ := hsg
  have EM := Lib.hid (show (n < 0 → (m : Int) = -n) ∧ (0 ≤ n → (m : Int) = n) ∧ (n < 0 → a < 0 → s = -1) ∧ (¬ (n < 0 ∧ a < 0) → s = 1) from ⟨em, ep, es, es'⟩)
  clear em ep es es'
  have hways : (n < 0 ∧ a < 0) ∨ (n < 0 ∧ ¬ a < 0) ∨ ¬ n < 0 := oM
  rcases hways with ⟨hn0, ha0⟩ | ⟨hn0, ha0⟩ | hn0
  all_goals
   go_enter Tryz.func35, Tryz.ntmps35
   go_wp2_with fail
   go_loopg [1, 4, 5, 6, 7] m (fun g s1 s4 s5 s6 s7 wr => ∃ (m : Nat) (s : Int), m ≤ g ∧ 1 ≤ m ∧ m ≤ 2147483647 ∧ -1 ≤ s ∧ s ≤ 1 ∧ s1 = .int .i64 m ∧ s6 = .int .i64 s ∧ w = wr ∧ KInv a m s n)
   case atStart =>
    obtain ⟨em, ep, es, es'⟩ := EM.out
    first
     | exact ⟨m, s, oM, m1, m2, s1, s2, by rw [em oM], by rw [es oM oM], rfl, HK⟩
     | exact ⟨m, s, oM, m1, m2, s1, s2, by rw [em oM], by rw [es' oM], rfl, HK⟩
     | exact ⟨m, s, oM, m1, m2, s1, s2, by rw [ep oM], by rw [es' oM], rfl, HK⟩
   case round =>
    clear EM HK m1 m2 s1 s2
    obtain ⟨m, s, hmg, m1, m2, s1, s2, rfl, rfl, rfl, HK⟩ := hrel
    rcases Nat.mod_two_eq_zero_or_one m with he | he
    ·have hb2 : ((m : Int) % 2 == 0) = true := by rw [beq_iff_eq]; omega
     have m3 : 2 ≤ m := oM
     by_cases hae : a % 2 = 0
     ·have hb3 : (a.tmod 2 == 0) = true := by rw [beq_iff_eq]; exact Int.tmod_eq_zero_of_dvd oM
      have hb4 : (a % 2 == 0) = true := by rw [beq_iff_eq]; exact hae
      have H := Lib.hid (HK.zero m1 he hae)
      clear he hae HK
      go_wp2_with fail
      go_ret2
      exact ⟨by rw [H.out]; rfl, rfl⟩
     ·have hb3 : (a.tmod 2 == 0) = false := by rw [beq_eq_false_iff_ne]; intro h; have := Int.dvd_of_tmod_eq_zero h; omega
      have hb4 : (a % 2 == 0) = false := by rw [beq_eq_false_iff_ne]; exact hae
      have h8 : (a % 8 = 3 ∧ (a % 8 == 3) = true) ∨ ((a % 8 == 3) = false ∧ a % 8 = 5 ∧ (a % 8 == 5) = true) ∨ ((a % 8 == 3) = false ∧ (a % 8 == 5) = false ∧ (a % 8 = 1 ∨ a % 8 = 7)) := by
       simp only [beq_iff_eq, beq_eq_false_iff_ne]; omega
      rcases h8 with ⟨h8, b3⟩ | ⟨b3, h8, b5⟩ | ⟨b3, b5, h8⟩
      ·have HE := Lib.hid (HK.neg m1 he (.inl h8))
       clear h8 he hae HK
       go_wp2_with (go_at_call 91; refine (bZP _ _ _ oM oM).mono ?_; rintro e w' ⟨rfl, rfl⟩)
       go_roundg (m / 2)
       case measure => omega
       case rel => exact ⟨m / 2, -s, oM, oM, oM, oM, oM, by go_num, rfl, rfl, HE.out⟩
      ·have HE := Lib.hid (HK.neg m1 he (.inr h8))
       clear h8 he hae HK
       go_wp2_with (go_at_call 91; refine (bZP _ _ _ oM oM).mono ?_; rintro e w' ⟨rfl, rfl⟩)
       go_roundg (m / 2)
       case measure => omega
       case rel => exact ⟨m / 2, -s, oM, oM, oM, oM, oM, by go_num, rfl, rfl, HE.out⟩
      ·have HE := Lib.hid (HK.same m1 he h8)
       clear h8 he hae HK
       go_wp2_with (go_at_call 91; refine (bZP _ _ _ oM oM).mono ?_; rintro e w' ⟨rfl, rfl⟩)
       go_roundg (m / 2)
       case measure => omega
       case rel => exact ⟨m / 2, s, oM, oM, oM, oM, oM, by go_num, rfl, rfl, HE.out⟩
    ·have hb2 : ((m : Int) % 2 == 0) = false := by rw [beq_eq_false_iff_ne]; omega
     have H := Lib.hid (HK.fin he)
     obtain ⟨r, hr⟩ : ∃ r : Nat, (a % (m : Int)).toNat = r := ⟨_, rfl⟩
     have hri : a % (m : Int) = (r : Int) := by have := Int.emod_nonneg a (show (m : Int) ≠ 0 by omega); omega
     have hrm : r < m := by have := Int.emod_lt_of_pos a (show 0 < (m : Int) by omega); omega
     rw [hr] at H
     have HR := Lib.hid hri
     have HE := Lib.hid he
     have hk3 := eZV r m
     have kb1 : -1 ≤ kr r m := oM
     have kb2 : kr r m ≤ 1 := oM
     have pb : -1 ≤ s * kr r m ∧ s * kr r m ≤ 1 := by rcases hk3 with h | h | h <;> rw [h] <;> omega
     obtain ⟨pb1, pb2⟩ := pb
     clear hr hri he HK hk3
     go_wp2_with (first | (go_at_call 91; refine (bZP _ _ _ oM oM).mono ?_; rintro e w' ⟨rfl, rfl⟩; rw [HR.out]) | (go_at_call 92; refine (kZT _ _ _ oM oM HE.out).mono ?_; rintro e w' ⟨rfl, rfl⟩))
     go_ret2
     exact ⟨by rw [← H.out]; rfl, rfl⟩
end
end Go.Proofs.YtfmjdlogjmofbaaGreatDoor
namespace Go.Proofs.YtfmjdlogjmofbaaGreatDoor.Num
def dZQ : Nat → Nat → Nat → Nat × Nat
 | 0, _, m => (m, 0)
 | f + 1, p, m => if m % p = 0 then ((dZQ f p (m / p)).1, (dZQ f p (m / p)).2 + 1) else (m, 0)
theorem bZN : ∀ (f p m : Nat), 2 ≤ p → 1 ≤ m → m ≤ f → m = (dZQ f p m).1 * p ^ (dZQ f p m).2 ∧ ¬ p ∣ (dZQ f p m).1
 | 0, p, m, _, h1, h2 => oM
 | f + 1, p, m, hp, h1, h2 => by
  unfold dZQ
  by_cases h : m % p = 0
  ·rw [if_pos h]
   have e := Nat.mul_div_cancel' (Nat.dvd_of_mod_eq_zero h)
   have hpos : 1 ≤ m / p := by
    rcases Nat.eq_zero_or_pos (m / p) with h0 | h0
    ·rw [h0] at e; omega
    ·exact h0
   have hlt : m / p < m := Nat.div_lt_self oM oM
   obtain ⟨i1, i2⟩ := bZN f p (m / p) hp hpos oM
   refine ⟨?_, i2⟩
   show m = (dZQ f p (m / p)).1 * p ^ ((dZQ f p (m / p)).2 + 1)
   rw [Nat.pow_succ, ← Nat.mul_assoc, ← i1, Nat.mul_comm]; exact e.symm
  ·rw [if_neg h]
   exact ⟨by simp, fun hd => h (Nat.mod_eq_zero_of_dvd hd)⟩
theorem cZW {p : Nat} (hp : 2 ≤ p) (e : Nat) : 1 ≤ p ^ e := Nat.pow_pos oM
theorem hZq {p r s e f : Nat} (hp : 2 ≤ p) (h : r * p ^ e = s * p ^ f) (hr : ¬ p ∣ r) (hs : ¬ p ∣ s) : r = s ∧ e = f := by
 rcases Nat.lt_trichotomy e f with hlt | heq | hgt
 ·obtain ⟨k, rfl⟩ : ∃ k, f = e + (k + 1) := ⟨f - e - 1, oM⟩
  rw [Nat.pow_add, Nat.mul_left_comm, Nat.mul_comm r] at h
  have := Nat.eq_of_mul_eq_mul_left (cZW hp e) h
  exact absurd ⟨s * p ^ k, by rw [this, Nat.pow_succ, ← Nat.mul_assoc, Nat.mul_comm]⟩ hr
 ·subst heq
  exact ⟨Nat.eq_of_mul_eq_mul_right (cZW hp e) h, rfl⟩
 ·obtain ⟨k, rfl⟩ : ∃ k, e = f + (k + 1) := ⟨e - f - 1, oM⟩
  rw [Nat.pow_add, Nat.mul_left_comm, Nat.mul_comm s] at h
  have := Nat.eq_of_mul_eq_mul_left (cZW hp f) h
  exact absurd ⟨r * p ^ k, by rw [← this, Nat.pow_succ, ← Nat.mul_assoc, Nat.mul_comm]⟩ hs
def pwF : Nat → Nat → List (Nat × Nat)
 | 0, _ => []
 | f + 1, n => if n < 2 then [] else (lf n, (dZQ n (lf n) n).2) :: pwF f (dZQ n (lf n) n).1
def pw (n : Nat) : List (Nat × Nat) := pwF n n
theorem dZn {n r e : Nat} (h : 2 ≤ n) (he : n = r * lf n ^ e) (hr : ¬ lf n ∣ r) : r < n ∧ 1 ≤ r ∧ 1 ≤ e := by
 obtain ⟨a, b, _⟩ := aZU n h
 have he1 : 1 ≤ e := by
  rcases Nat.eq_zero_or_pos e with h0 | h0
  ·subst h0; rw [Nat.pow_zero, Nat.mul_one] at he; rw [← he] at hr; exact absurd b hr
  ·exact h0
 have hr1 : 1 ≤ r := by
  rcases Nat.eq_zero_or_pos r with h0 | h0
  ·subst h0; omega
  ·exact h0
 refine ⟨?_, hr1, he1⟩
 have h2 : 2 ≤ lf n ^ e := by
  have := Nat.pow_le_pow_right (show 0 < lf n by omega) he1
  rw [Nat.pow_one] at this; omega
 have := Nat.mul_le_mul_left r h2
 omega
theorem jZ6 : ∀ (f g n : Nat), n ≤ f → n ≤ g → pwF f n = pwF g n
 | 0, 0, _, _, _ => rfl
 | 0, g + 1, n, h, _ => by unfold pwF; rw [if_pos oM]
 | f + 1, 0, n, _, h => by unfold pwF; rw [if_pos oM]
 | f + 1, g + 1, n, h1, h2 => by
  unfold pwF
  by_cases h : n < 2
  ·rw [if_pos h, if_pos h]
  ·rw [if_neg h, if_neg h]
   obtain ⟨s1, s2⟩ := bZN n (lf n) n (aZU n oM).1 oM (Nat.le_refl n)
   have := (dZn oM s1 s2).1
   rw [jZ6 f g _ oM oM]
theorem eZS {n : Nat} (h : n < 2) : pw n = [] := by
 unfold pw; cases n with
 | zero => rfl
 | succ n => unfold pwF; rw [if_pos h]
theorem gZC {n r e : Nat} (h : 2 ≤ n) (he : n = r * lf n ^ e) (hr : ¬ lf n ∣ r) : pw n = (lf n, e) :: pw r := by
 obtain ⟨s1, s2⟩ := bZN n (lf n) n (aZU n oM).1 oM (Nat.le_refl n)
 obtain ⟨u1, u2⟩ := hZq (aZU n h).1 (s1.symm.trans he) s2 hr
 have hlt := dZn h he hr
 obtain ⟨k, hk⟩ : ∃ k, n = k + 1 := ⟨n - 1, oM⟩
 have : pwF n n = (lf n, (dZQ n (lf n) n).2) :: pwF k (dZQ n (lf n) n).1 := by
  conv => lhs; rw [show pwF n n = pwF (k + 1) n by rw [← hk]]
  rw [pwF, if_neg oM]
 unfold pw
 rw [this, u1, u2, jZ6 k r r oM (Nat.le_refl r)]
def lZ6 (l : List (Nat × Nat)) : List Nat := l.flatMap fun x => List.replicate x.2 x.1
theorem oZv {n r e : Nat} (h : 2 ≤ n) (he : n = r * lf n ^ e) (hr : ¬ lf n ∣ r) : pf n = List.replicate e (lf n) ++ pf r := by
 have key : ∀ e n, 2 ≤ n → ∀ p, p = lf n → n = r * p ^ e → ¬ p ∣ r → pf n = List.replicate e p ++ pf r := by
  intro e
  induction e with
  | zero =>
   intro n hn p hp h1 h2
   rw [Nat.pow_zero, Nat.mul_one] at h1
   subst h1
   exact absurd (hp ▸ (aZU n hn).2.1) h2
  | succ e ih =>
   intro n hn p hp h1 h2
   have hp2 : 2 ≤ p := hp ▸ (aZU n hn).1
   have hdiv : n / lf n = r * p ^ e := by
    rw [← hp, h1, Nat.pow_succ, ← Nat.mul_assoc, Nat.mul_div_cancel _ oM]
   rw [gZE hn, hdiv, ← hp, List.replicate_succ, List.cons_append]
   congr 1
   rcases Nat.eq_zero_or_pos e with h0 | h0
   ·subst h0; simp
   ·have hr1 : 1 ≤ r := by
     rcases Nat.eq_zero_or_pos r with h0 | h0
     ·subst h0; simp at h1; omega
     ·exact h0
    have hm2 : 2 ≤ r * p ^ e := by
     obtain ⟨k, rfl⟩ : ∃ k, e = k + 1 := ⟨e - 1, oM⟩
     have h3 := cZW hp2 k
     rw [Nat.pow_succ]
     have := Nat.mul_le_mul h3 hp2
     have := Nat.mul_le_mul hr1 this
     omega
    refine ih (r * p ^ e) hm2 p ?_ rfl h2
    refine (lf_unique _ _ hm2 hp2 ?_ ?_).symm
    ·obtain ⟨k, rfl⟩ : ∃ k, e = k + 1 := ⟨e - 1, oM⟩
     rw [Nat.pow_succ, ← Nat.mul_assoc]; exact Nat.dvd_mul_left _ _
    ·intro d hd1 hd2 hd
     refine (aZU n hn).2.2 d hd1 (hp ▸ hd2) ?_
     rw [h1, Nat.pow_succ, ← Nat.mul_assoc]
     exact Nat.dvd_mul_right_of_dvd hd _
 exact key e n h (lf n) rfl he hr
theorem lZ5 (n : Nat) (h : 1 ≤ n) : lZ6 (pw n) = pf n := by
 induction n using Nat.strongRecOn with
 | _ n ih =>
  by_cases h2 : n < 2
  ·rw [eZS h2, dZW h2]; rfl
  ·obtain ⟨s1, s2⟩ := bZN n (lf n) n (aZU n oM).1 oM (Nat.le_refl n)
   have hlt := dZn oM s1 s2
   rw [gZC oM s1 s2, oZv oM s1 s2, ← ih _ hlt.1 hlt.2.1]
   rfl
def FInv (L : List (Nat × Nat)) (m N : Nat) : Prop := 1 ≤ m ∧ L ++ pw m = pw N ∧ 2 ^ L.length * m ≤ N ∧ ∀ x ∈ L, x.1 ≤ N ∧ 2 ≤ x.1 ∧ 1 ≤ x.2 ∧ x.1 ^ x.2 ≤ N
theorem FInv.start (N : Nat) (h : 1 ≤ N) : FInv [] N N := ⟨h, rfl, by simp, by simp⟩
theorem FInv.step {L : List (Nat × Nat)} {m N r e : Nat} (hI : FInv L m N) (hm : 2 ≤ m) (he : m = r * lf m ^ e) (hr : ¬ lf m ∣ r) : FInv (L ++ [(lf m, e)]) r N := by
 obtain ⟨h1, h2, h3, h4⟩ := hI
 obtain ⟨q1, q2, q3⟩ := dZn hm he hr
 have hpos : 1 ≤ 2 ^ L.length := cZW (Nat.le_refl 2) _
 have hmN : m ≤ N := by have := Nat.mul_le_mul_right m hpos; omega
 refine ⟨q2, ?_, ?_, ?_⟩
 ·rw [List.append_assoc, ← h2, gZC hm he hr]; rfl
 ·rw [List.length_append, List.length_singleton, Nat.pow_succ, Nat.mul_assoc]
  refine Nat.le_trans (Nat.mul_le_mul_left _ ?_) h3
  have h2e : 2 ≤ lf m ^ e := by
   have := Nat.pow_le_pow_right (show 0 < lf m by have := (aZU m hm).1; omega) q3
   rw [Nat.pow_one] at this; have := (aZU m hm).1; omega
  have := Nat.mul_le_mul_left r h2e
  omega
 ·intro x hx
  rcases List.mem_append.1 hx with hx | hx
  ·exact h4 x hx
  ·rw [List.mem_singleton] at hx
   subst hx
   refine ⟨by have := lf_le m hm; show lf m ≤ N; omega, (aZU m hm).1, q3, ?_⟩
   show lf m ^ e ≤ N
   have := Nat.mul_le_mul_right (lf m ^ e) q2
   omega
theorem FInv.len {L : List (Nat × Nat)} {m N : Nat} (hI : FInv L m N) (hN : N ≤ 2147483647) : L.length ≤ 30 := by
 obtain ⟨h1, _, h3, _⟩ := hI
 rcases Nat.lt_or_ge 30 L.length with h | h
 ·have := Nat.pow_le_pow_right (show 0 < 2 by omega) h
  have h5 : 2 ^ 31 ≤ 2 ^ L.length * m := Nat.le_trans this (Nat.le_mul_of_pos_right _ h1)
  have : (2 : Nat) ^ 31 = 2147483648 := by decide
  omega
 ·exact h
theorem FInv.done {L : List (Nat × Nat)} {m N : Nat} (hI : FInv L m N) (h : m < 2) : L = pw N := by
 have := hI.2.1
 rwa [eZS h, List.append_nil] at this
theorem qZ5 {p e N : Nat} (hp : 2 ≤ p) (h : p ^ e ≤ N) (hN : N ≤ 2147483647) : e ≤ 30 := by
 rcases Nat.lt_or_ge 30 e with h' | h'
 ·have h1 := Nat.pow_le_pow_right (show 0 < 2 by omega) h'
  have h2 : 2 ^ e ≤ p ^ e := Nat.pow_le_pow_left hp e
  have : (2 : Nat) ^ 31 = 2147483648 := by decide
  have h3 : 2 ^ (30 + 1) ≤ N := Nat.le_trans h1 (Nat.le_trans h2 h)
  omega
 ·exact h'
theorem pw_bd (N : Nat) (h : 1 ≤ N) : (pw N).length ≤ N ∧ ∀ x ∈ pw N, x.1 ≤ N ∧ 2 ≤ x.1 ∧ 1 ≤ x.2 ∧ x.1 ^ x.2 ≤ N := by
 have key : ∀ n L, FInv L n N → ∃ m, FInv (pw N) m N := by
  intro n
  induction n using Nat.strongRecOn with
  | _ n ih =>
   intro L hI
   by_cases h2 : n < 2
   ·exact ⟨n, hI.done h2 ▸ hI⟩
   ·obtain ⟨s1, s2⟩ := bZN n (lf n) n (aZU n oM).1 oM (Nat.le_refl n)
    have hlt := dZn oM s1 s2
    exact ih _ hlt.1 _ (hI.step oM s1 s2)
 obtain ⟨m, h1, _, h3, h4⟩ := key N [] (FInv.start N h)
 refine ⟨?_, h4⟩
 have : (pw N).length < 2 ^ (pw N).length := Nat.lt_two_pow_self
 have := Nat.mul_le_mul_left (2 ^ (pw N).length) h1
 omega
end Go.Proofs.YtfmjdlogjmofbaaGreatDoor.Num
namespace Go.Proofs.YtfmjdlogjmofbaaGreatDoor
section
open Go.RowKit Num
def bZu (L : List (Nat × Nat)) : List Value := L.flatMap fun x => [.int .i64 (x.1 : Nat), .int .i64 (x.2 : Nat)]
theorem gZD (L : List (Nat × Nat)) (p e : Nat) : bZu (L ++ [(p, e)]) = bZu L ++ [.int .i64 p, .int .i64 e] := by
 simp [bZu]
theorem Tab.below {w w' : World} (h : Tab w) (hb : Below w.heap.size w w') : Tab w' := by
 obtain ⟨tt, fr, h⟩ := h
 refine ⟨tt, fr, ?_⟩
 rw [hb.block _ ?_]; exact h
 exact (Array.getElem?_eq_some_iff.1 h).1
theorem infoPow : (Tryz.prog.info? 189).map (fun i => (i.zero, i.size, i.bytes)) = some (some (.agg #[.int .i64 0, .int .i64 0]), 2, 16) := by kernel_rfl
def gZs (N : Nat) (w : World) (e : Ending) (w' : World) : Prop :=
 ∃ v, e = .returned (.tuple #[v, .int .i64 0]) ∧ w'.ownsRow w.heap.size 189 2 v (pw N).length (bZu (pw N)) ∧ Below w.heap.size w w'
set_option maxHeartbeats 1000000 in
theorem lZb (N : Nat) (w : World) (h1 : 1 ≤ N) (h2 : N ≤ 2147483647) (ht : Tab w) :
  Calls Tryz.prog 143 #[.int .i64 N] w (gZs N w) := by
 obtain ⟨i0, hi, hx⟩ := Option.map_eq_some_iff.1 infoPow
 simp only [Prod.mk.injEq] at hx
 obtain ⟨hz0, hz1, hz2⟩ := hx
 go_enter Tryz.func143, Tryz.ntmps143
 go_wp2_with fail
 go_loopg [0, 4, 5] N (fun g s0 s4 s5 wr => ∃ (m : Nat) (L : List (Nat × Nat)), m ≤ g ∧ m ≤ N ∧ s0 = .int .i64 m ∧ FInv L m N ∧ wr.ownsRow w.heap.size 189 2 s4 L.length (bZu L) ∧ Below w.heap.size w wr)
 case atStart => exact ⟨N, [], oM, oM, rfl, FInv.start N h1, World.ownsRow_nil _ _ _ _, Below.refl _ _⟩
 case round =>
  obtain ⟨m, L, hmg, hmN, rfl, HI, hown, hbel⟩ := hrel
  by_cases hm : 2 ≤ m
  ·have htr := ht.below hbel
   have hl2 := (aZU m hm).1
   have hlm := lf_le m hm
   obtain ⟨p, hp⟩ : ∃ p, lf m = p := ⟨_, rfl⟩
   have cL := hZQ m wr hm oM htr
   rw [hp] at cL hl2 hlm
   have CL := Lib.hid cL
   clear cL
   have hgt : (1 : Int) < (m : Int) := oM
   have HP := Lib.hid hp
   have HX := Lib.hid (show wr.ownsRow w.heap.size 189 2 u4 L.length (bZu L) ∧ Below w.heap.size w wr from ⟨hown, hbel⟩)
   clear hp hown hbel htr ht
   obtain ⟨wo, rfl⟩ : ∃ wo : World, wo = wr := ⟨_, rfl⟩
   obtain ⟨go, rfl⟩ : ∃ go : Nat, go = gk := ⟨_, rfl⟩
   go_wp2_with (go_at_call 142; refine CL.out.mono ?_; rintro e w' ⟨rfl, rfl⟩)
   go_loopg [0] m (fun g s0 wx => ∃ r e : Nat, r ≤ g ∧ 1 ≤ r ∧ r ≤ m ∧ e ≤ 31 ∧ s0 = .int .i64 r ∧ wx = wo.alloc (.cells #[.int .i64 p, .int .i64 e] 189) ∧ m = r * p ^ e)
   case atStart => exact ⟨m, 0, oM, oM, oM, oM, rfl, rfl, by rw [Nat.pow_zero, Nat.mul_one]⟩
   case round =>
    obtain ⟨r, e, hrg, hr1, hrm, he31, rfl, rfl, hme⟩ := hrel
    by_cases hd : r % p = 0
    ·have hb : ((r : Int) % (p : Int) == 0) = true := by rw [beq_iff_eq]; omega
     have hdiv := Nat.mul_div_cancel' (Nat.dvd_of_mod_eq_zero hd)
     have hq1 : 1 ≤ r / p := by
      rcases Nat.eq_zero_or_pos (r / p) with h0 | h0
      ·rw [h0] at hdiv; omega
      ·exact h0
     have hqlt : r / p < r := Nat.div_lt_self oM oM
     have HE : Hid (m = (r / p) * p ^ (e + 1)) := by
      show m = (r / p) * p ^ (e + 1)
      rw [Nat.pow_succ, Nat.mul_comm (p ^ e), ← Nat.mul_assoc, Nat.mul_comm (r / p), hdiv]; exact hme
     have he30 : e + 1 ≤ 31 := by
      have h3 := HE.out
      have : p ^ (e + 1) ≤ m := by
       have := Nat.mul_le_mul_right (p ^ (e + 1)) hq1
       omega
      have := qZ5 hl2 this oM
      omega
     clear hd hdiv hme
     go_wp2
     go_roundg (r / p)
     case measure => omega
     case rel => exact ⟨r / p, e + 1, oM, oM, oM, oM, by go_num, by go_num, HE.out⟩
    ·have hb : ((r : Int) % (p : Int) == 0) = false := by rw [beq_eq_false_iff_ne]; omega
     have HE := Lib.hid (show FInv (L ++ [(p, e)]) r N by
      have := HI.step hm (r := r) (e := e) (by rw [HP.out]; exact hme) (by rw [HP.out]; exact fun h => hd (Nat.mod_eq_zero_of_dvd h))
      rwa [HP.out] at this)
     have hlt : r < m := by
      have := (dZn hm (r := r) (e := e) (by rw [HP.out]; exact hme) (by rw [HP.out]; exact fun h => hd (Nat.mod_eq_zero_of_dvd h))).1
      exact this
     have hlen := HI.len h2
     have hlen2 := HE.out.len h2
     clear hd hme
     obtain ⟨hown, hbel⟩ := HX.out
     have hsz := hbel.size
     go_wp2_with (at_builtin; refine wpList_append_own _ rfl _ _ 185 rfl w.heap.size 189 i0 (.agg #[.int .i64 0, .int .i64 0]) 2 16 Tryz.underlying185 hi hz0 hz1 hz2 rfl aD _ _ _ rfl ((hown.alloc _).alloc _) ⟨wo.heap.size + 1, 0, none⟩ 1 1 [.int .i64 p, .int .i64 e] rfl rfl ?c1 ?c2 ?c3 ?c4 ?c5 ?_)
     case c1 => exact iZk _ _ (by simp) [.int .i64 p, .int .i64 e] _
     case c2 => exact oZ0 _ (by simp)
     case c3 => unfold maxLen; omega
     case c4 => omega
     case c5 => simp; omega
     intro v' w1 hown' hgrow _
     have HX2 : Hid (w1.ownsRow w.heap.size 189 2 v' (L ++ [(p, e)]).length (bZu (L ++ [(p, e)])) ∧ Below w.heap.size w w1) := by
      refine ⟨?_, ?_⟩
      ·rw [gZD, List.length_append]; exact hown'
      ·exact ((hbel.alloc hsz _).alloc (by simp; omega) _).grown hgrow (by simp; omega) fun k hk => (hown.lt k hk).1
     clear hown' hgrow hown hbel HX
     go_wp2
     go_roundg r
     case measure => omega
     case rel => exact ⟨r, L ++ [(p, e)], oM, oM, rfl, HE.out, HX2.out.1, HX2.out.2⟩
  ·have hgt : ¬ (1 : Int) < (m : Int) := oM
   have HE := Lib.hid (HI.done oM)
   have HX := Lib.hid (show wr.ownsRow w.heap.size 189 2 u4 L.length (bZu L) ∧ Below w.heap.size w wr from ⟨hown, hbel⟩)
   clear hown hbel
   go_wp2
   go_ret2
   refine ⟨_, rfl, ?_, HX.out.2⟩
   rw [← HE.out]; exact HX.out.1
end
section
open Go.RowKit Num
theorem eZD : ∀ (L : List (Nat × Nat)) (i : Nat) (p e : Nat), L[i]? = some (p, e) → (bZu L)[i * 2]? = some (.int .i64 p) ∧ (bZu L)[i * 2 + 1]? = some (.int .i64 e)
 | [], i, p, e, h => by simp at h
 | x :: L, 0, p, e, h => by
  simp only [List.getElem?_cons_zero, Option.some.injEq] at h
  subst h
  simp [bZu]
 | x :: L, i + 1, p, e, h => by
  have := eZD L i p e (by simpa using h)
  simp only [bZu, List.flatMap_cons] at this ⊢
  rw [show (i + 1) * 2 = i * 2 + 2 by omega, show i * 2 + 2 + 1 = (i * 2 + 1) + 2 by omega]
  simpa using this
theorem Rd.pow {w : World} {v : Value} {L : List (Nat × Nat)} (h : Rd w v L.length (bZu L)) {i p e : Nat} (hi : L[i]? = some (p, e)) :
  ∃ b off cap, v = .slice (some ⟨b, off, none⟩) L.length cap ∧ b < w.heap.size ∧ w.cell? ⟨b, off + i * 2, none⟩ = some (.int .i64 p) ∧ w.cell? ⟨b, off + i * 2 + 1, none⟩ = some (.int .i64 e) := by
 obtain ⟨h1, h2⟩ := eZD L i p e hi
 obtain ⟨a, cap, rfl, _, _, h3⟩ := h
 have hne : bZu L ≠ [] := fun hx => by rw [hx] at h1; simp at h1
 obtain ⟨b, off, rfl, hb, hc⟩ := h3 hne
 exact ⟨b, off, cap, rfl, hb, hc _ _ h1, by have := hc _ _ h2; rwa [← Nat.add_assoc] at this⟩
theorem fZv (k : Nat) (x : Int) : aZz (List.replicate k x) = x ^ k := by
 induction k with
 | zero => simp [aZz]
 | succ k ih => rw [List.replicate_succ, aZz, ih, Int.pow_succ, Int.mul_comm]
def kl (a : Int) (L : List (Nat × Nat)) : Int := aZz ((lZ6 L).map (ps a))
theorem kl_nil (a : Int) : kl a [] = 1 := rfl
theorem kl_cons (a : Int) (p e : Nat) (L : List (Nat × Nat)) : kl a ((p, e) :: L) = ps a p ^ e * kl a L := by
 unfold kl lZ6
 rw [List.flatMap_cons, List.map_append, eZH, List.map_replicate, fZv]
theorem kr_kl (a : Int) {n : Nat} (h : 1 ≤ n) : kr a n = kl a (pw n) := by
 unfold kr kl; rw [lZ5 n h]
def SInv (a : Int) (s : Int) (k : Nat) (p : Nat) (L : List (Nat × Nat)) (n : Int) : Prop := s * (ps a p ^ k * kl a L) = krZ a n
theorem SInv.step {a s : Int} {k p : Nat} {L : List (Nat × Nat)} {n : Int} (h : SInv a s (k + 1) p L n) : SInv a (s * ps a p) k p L n := by
 unfold SInv at *
 rw [Int.pow_succ, Int.mul_comm (ps a p ^ k)] at h
 rw [Int.mul_assoc, ← Int.mul_assoc (ps a p), h]
def SOut (a : Int) (s : Int) (L : List (Nat × Nat)) (n : Int) : Prop := s * kl a L = krZ a n
theorem SOut.open {a s : Int} {p e : Nat} {L : List (Nat × Nat)} {n : Int} (h : SOut a s ((p, e) :: L) n) : SInv a s e p L n := by
 unfold SOut at h; unfold SInv; rwa [kl_cons] at h
theorem SOut.start_neg {a n : Int} (hn : n < 0) (ha : a < 0) : SOut a (-1) (pw n.natAbs) n := by
 unfold SOut krZ; rw [if_neg oM, if_pos ⟨hn, ha⟩, kr_kl a oM]
theorem SOut.start_pos {a n : Int} (hn : n ≠ 0) (ha : ¬ (n < 0 ∧ a < 0)) : SOut a 1 (pw n.natAbs) n := by
 unfold SOut krZ; rw [if_neg hn, if_neg ha, kr_kl a oM]
theorem SOut.done {a s n : Int} (h : SOut a s [] n) : krZ a n = s := by
 unfold SOut at h; rw [kl_nil, Int.mul_one] at h; exact h.symm
end
end Go.Proofs.YtfmjdlogjmofbaaGreatDoor

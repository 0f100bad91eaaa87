import Derived.Test.YtifagnolobhhdaaDoorLawA
import Derived.OpenShut
namespace Go.Proofs.YtifagnolobhhdaaDoor
open Go.RowKit Num

theorem disc_both (n : Int) (w : World) (ht : Tab w) : ∃ d e : Int, Calls Tryd.prog 28 #[.int .i64 n] w (fun x w' => x = .returned (.tuple #[.int .i64 d, .int .i64 e]) ∧ Below w.heap.size w w') ∧
    (∀ w : World, Calls Tryd.prog 29 #[.int .i64 n] w (fun x w' => x = .returned (.tuple #[.int .i64 d, .int .i64 e]) ∧ w = w')) ∧ (n ≠ 0 → InR n → d = disc n) := by
  by_cases h : n = 0 ∨ ¬ InR n
  · exact ⟨_, _, (disc_out n w h).mono fun e w' ⟨h1, h2⟩ => ⟨h1, h2 ▸ Below.refl _ _⟩, fun w => rdisc_out n w h, fun h1 h2 => by rcases h with h | h; exact absurd h h1; exact absurd h2 h⟩
  · have h1 : n ≠ 0 := fun e => h (.inl e)
    have h2 : InR n := Classical.byContradiction fun e => h (.inr e)
    exact ⟨_, _, disc_any n w h1 h2 ht, fun w => rdisc_any n w h1 h2, fun _ _ => rfl⟩

theorem mul_bd {x r B R : Int} (h1 : -B ≤ x) (h2 : x ≤ B) (h3 : 0 ≤ r) (h4 : r ≤ R) : -(B * R) ≤ x * r ∧ x * r ≤ B * R := by
  have hB : 0 ≤ B := by omega
  have a1 : x * r ≤ B * r := Int.mul_le_mul_of_nonneg_right h2 h3
  have a2 : B * r ≤ B * R := Int.mul_le_mul_of_nonneg_left h4 hB
  have a3 : -B * r ≤ x * r := Int.mul_le_mul_of_nonneg_right h1 h3
  rw [Int.neg_mul] at a3
  omega
set_option maxHeartbeats 1000000 in
theorem disc_law (n0 n k : Int) (small : Bool) (w : World) (ht : Tab w) (hk : 0 ≤ k) (hk2 : k ≤ 255) (hs : (small = true ∧ n = n0.tmod 5000) ∨ (small = false ∧ n = n0)) :
    Calls Tryd.prog 11 #[.int .i64 n0, .int .u8 k, .bool small] w fun e w' => e = .returned (.bool true) ∧ Below w.heap.size w w' := by
  obtain ⟨d, e, c1, c2, hd⟩ := disc_both n w ht
  have C1 := Lib.hid c1
  have C2 := Lib.hid c2
  have HT := Lib.hid ht
  have HD := Lib.hid hd
  clear c1 c2 ht hd
  by_cases hr : n = 0 ∨ n < -30000 ∨ 30000 < n
  · have hw : (n = 0 ∧ (n == 0) = true) ∨ ((n == 0) = false ∧ n < -30000) ∨ ((n == 0) = false ∧ ¬ n < -30000 ∧ 30000 < n) := by
      simp only [beq_iff_eq, beq_eq_false_iff_ne]; omega
    clear hr
    rcases hw with ⟨h0, h1⟩ | ⟨h1, h2⟩ | ⟨h1, h2, h3⟩ <;> rcases hs with ⟨rfl, hn⟩ | ⟨rfl, hn⟩
    all_goals
      rw [hn] at h1
      try rw [hn] at h2
      try rw [hn] at h3
      try clear h0
      rw [hn] at C1 C2
      clear hn
      go_enter Tryd.func11, Tryd.ntmps11
      go_wp2_with (first | (go_at_call 28; refine C1.out.mono ?_; rintro e w1 ⟨rfl, hb⟩; have HB := Lib.hid hb; clear hb) | (go_at_call 29; refine (C2.out _).mono ?_; rintro e w1 ⟨rfl, rfl⟩))
      refine (awake_any _ (HT.out.below HB.out)).mono ?_
      rintro e w2 ⟨rfl, hb2⟩
      have HB2 := Lib.hid (below_two HB.out hb2)
      clear hb2
      go_wp2_with fail
      go_ret
      exact ⟨rfl, HB2.out⟩
  · have h0 : n ≠ 0 := by omega
    have h1 : -30000 ≤ n := by omega
    have h2 : n ≤ 30000 := by omega
    have b0 : (n == 0) = false := by rw [beq_eq_false_iff_ne]; exact h0
    have q1 := mul_bd h1 h2 (show 0 ≤ k + 1 by omega) (show k + 1 ≤ 256 by omega)
    have q2 := mul_bd q1.1 q1.2 (show 0 ≤ k + 1 by omega) (show k + 1 ≤ 256 by omega)
    have hrr : (((k + 1).toNat : Nat) : Int) = k + 1 := by omega
    have hne : n * (k + 1) * (k + 1) ≠ 0 := Int.mul_ne_zero (Int.mul_ne_zero h0 (by omega)) (by omega)
    have hin : InR (n * (k + 1) * (k + 1)) := by unfold InR; omega
    have hdd : disc (n * (k + 1) * (k + 1)) = d := by
      have := disc_sq n (k + 1).toNat h0 (by omega)
      rw [hrr] at this
      rw [this]
      exact (HD.out h0 (by unfold InR; omega)).symm
    have C3 := Lib.hid (fun w ht => disc_any (n * (k + 1) * (k + 1)) w hne hin ht)
    rw [hdd] at C3
    obtain ⟨q1a, q1b⟩ := q1
    obtain ⟨q2a, q2b⟩ := q2
    clear hrr hne hin hdd HD hr h0
    rcases hs with ⟨rfl, hn⟩ | ⟨rfl, hn⟩
    all_goals
      rw [hn] at C1 C2 C3 h1 h2 b0 q1a q1b q2a q2b
      clear hn
      go_enter Tryd.func11, Tryd.ntmps11
      go_wp2_with fail
      refine C1.out.mono ?_
      rintro e w1 ⟨rfl, hb⟩
      have HB := Lib.hid hb
      clear hb
      go_wp2_with (go_at_call 29; refine (C2.out _).mono ?_; rintro e w1 ⟨rfl, rfl⟩)
      refine (C3.out _ (HT.out.below HB.out)).mono ?_
      rintro e w2 ⟨rfl, hb2⟩
      have HB2 := Lib.hid (below_two HB.out hb2)
      clear hb2
      go_wp2_with fail
      refine (awake_any _ (HT.out.below HB2.out)).mono ?_
      rintro e w3 ⟨rfl, hb3⟩
      have HB3 := Lib.hid (below_two HB2.out hb3)
      clear hb3
      go_wp2_with fail
      go_ret
      exact ⟨rfl, HB3.out⟩
theorem law_PrimeDiscriminant (n0 k : Int) (small : Bool) (w : World) (wk : (Lit.int .u8 k).wf = true) (ht : Tab w) :
    Calls Tryd.prog 11 #[.int .i64 n0, .int .u8 k, .bool small] w fun e w' => e = .returned (.bool true) ∧ Below w.heap.size w w' := by
  have hb := bounds_u8 wk
  cases small
  · exact disc_law n0 n0 k false w ht hb.1 hb.2 (.inr ⟨rfl, rfl⟩)
  · exact disc_law n0 _ k true w ht hb.1 hb.2 (.inl ⟨rfl, rfl⟩)

/-! ### Multiplication -/
theorem krZ_pos (a : Int) {n : Nat} (h : 1 ≤ n) : krZ a n = kr a n := by
  unfold krZ
  rw [if_neg (by omega), if_neg (by omega), Int.one_mul, Int.natAbs_natCast]
theorem krZ_top (a b : Int) (n : Int) (h : 1 ≤ n) : krZ (a * b) n = krZ a n * krZ b n := by
  obtain ⟨m, rfl⟩ := Int.eq_ofNat_of_zero_le (show 0 ≤ n by omega)
  have hm : 1 ≤ m := by omega
  rw [krZ_pos _ hm, krZ_pos _ hm, krZ_pos _ hm, kr_mul_top _ _ hm]
theorem krZ_bot (a : Int) (m n : Int) (h : 1 ≤ m) (h' : 1 ≤ n) : krZ a (m * n) = krZ a m * krZ a n := by
  obtain ⟨x, rfl⟩ := Int.eq_ofNat_of_zero_le (show 0 ≤ m by omega)
  obtain ⟨y, rfl⟩ := Int.eq_ofNat_of_zero_le (show 0 ≤ n by omega)
  have hx : 1 ≤ x := by omega
  have hy : 1 ≤ y := by omega
  rw [show (x : Int) * (y : Int) = ((x * y : Nat) : Int) by simp, krZ_pos _ (Nat.mul_pos hx hy), krZ_pos _ hx, krZ_pos _ hy, kr_mul_bot _ hx hy]
theorem three_bd {t : Int} (h : t = 0 ∨ t = 1 ∨ t = -1) : -1 ≤ t ∧ t ≤ 1 := by omega
theorem mul_bd2 {x y B R : Int} (h1 : -B ≤ x) (h2 : x ≤ B) (h3 : -R ≤ y) (h4 : y ≤ R) : -(B * R) ≤ x * y ∧ x * y ≤ B * R := by
  rcases Int.le_total 0 y with h | h
  · exact mul_bd h1 h2 h h4
  · have := mul_bd (R := R) h1 h2 (r := -y) (by omega) (by omega)
    rw [Int.mul_neg] at this
    omega

set_option maxHeartbeats 4000000 in
theorem law_PrimeMultiplies (a b m n : Int) (w : World) (wa : (Lit.int .i16 a).wf = true) (wb : (Lit.int .i16 b).wf = true) (wm : (Lit.int .u16 m).wf = true) (wn : (Lit.int .u16 n).wf = true) (ht : Tab w) :
    Calls Tryd.prog 7 #[.int .i16 a, .int .i16 b, .int .u16 m, .int .u16 n] w fun e w' => e = .returned (.bool true) ∧ Below w.heap.size w w' := by
  obtain ⟨a1, a2⟩ := bounds_i16 wa
  obtain ⟨b1, b2⟩ := bounds_i16 wb
  obtain ⟨m1, m2⟩ := bounds_u16 wm
  obtain ⟨n1, n2⟩ := bounds_u16 wn
  clear wa wb wm wn
  have hab := mul_bd2 (B := 32768) (R := 32768) (x := a) (y := b) (by omega) (by omega) (by omega) (by omega)
  have hmn := mul_bd (B := 4000) (R := 4000) (x := m % 4000 + 1) (r := n % 4000 + 1) (by omega) (by omega) (by omega) (by omega)
  have K1 := Lib.hid (fun w => kron_any (a * b) (n + 1) w (by unfold InR; omega) (by unfold InR; omega))
  have K2 := Lib.hid (fun w => kron_any a (n + 1) w (by unfold InR; omega) (by unfold InR; omega))
  have K3 := Lib.hid (fun w => kron_any b (n + 1) w (by unfold InR; omega) (by unfold InR; omega))
  have K4 := Lib.hid (fun w => kron_any a ((m % 4000 + 1) * (n % 4000 + 1)) w (by unfold InR; omega) (by unfold InR; omega))
  have K5 := Lib.hid (fun w => kron_any a (m % 4000 + 1) w (by unfold InR; omega) (by unfold InR; omega))
  have K6 := Lib.hid (fun w => kron_any a (n % 4000 + 1) w (by unfold InR; omega) (by unfold InR; omega))
  rw [krZ_top a b (n + 1) (by omega)] at K1
  rw [krZ_bot a (m % 4000 + 1) (n % 4000 + 1) (by omega) (by omega)] at K4
  have t2 := three_bd (krZ_three a (n + 1))
  have t3 := three_bd (krZ_three b (n + 1))
  have t5 := three_bd (krZ_three a (m % 4000 + 1))
  have t6 := three_bd (krZ_three a (n % 4000 + 1))
  have p1 := mul_bd2 (B := 1) (R := 1) t2.1 t2.2 t3.1 t3.2
  have p2 := mul_bd2 (B := 1) (R := 1) t5.1 t5.2 t6.1 t6.2
  generalize krZ a (n + 1) = x1 at *
  generalize krZ b (n + 1) = x2 at *
  generalize krZ a (m % 4000 + 1) = x3 at *
  generalize krZ a (n % 4000 + 1) = x4 at *
  obtain ⟨hab1, hab2⟩ := hab
  obtain ⟨hmn1, hmn2⟩ := hmn
  obtain ⟨p1a, p1b⟩ := p1
  obtain ⟨p2a, p2b⟩ := p2
  clear t2 t3 t5 t6
  have C := Lib.hid (awake_any w ht)
  clear ht
  go_enter Tryd.func7, Tryd.ntmps7
  go_wp2_with fail
  refine (K1.out _).mono ?_
  rintro e w' ⟨rfl, rfl⟩
  go_wp2_with fail
  refine (K2.out _).mono ?_
  rintro e w' ⟨rfl, rfl⟩
  go_wp2_with fail
  refine (K3.out _).mono ?_
  rintro e w' ⟨rfl, rfl⟩
  go_wp2_with fail
  refine (K4.out _).mono ?_
  rintro e w' ⟨rfl, rfl⟩
  go_wp2_with fail
  refine (K5.out _).mono ?_
  rintro e w' ⟨rfl, rfl⟩
  go_wp2_with fail
  refine (K6.out _).mono ?_
  rintro e w' ⟨rfl, rfl⟩
  go_wp2_with fail
  refine C.out.mono ?_
  rintro e w1 ⟨rfl, hb⟩
  have HB := Lib.hid hb
  clear hb
  go_wp2_with fail
  go_ret
  exact ⟨rfl, HB.out⟩

/-! ### Squares -/
def odd8 : Nat → Nat
  | 0 => 3 | 1 => 5 | 2 => 7 | 3 => 11 | 4 => 13 | 5 => 17 | 6 => 19 | _ => 23
theorem odd8_bd (k : Nat) : 3 ≤ odd8 k ∧ odd8 k ≤ 23 := by unfold odd8; split <;> omega
theorem ints_oddprime (j : Nat) (h : j < 8) : ([.int .i64 3, .int .i64 5, .int .i64 7, .int .i64 11, .int .i64 13, .int .i64 17, .int .i64 19, .int .i64 23] : List Value)[j]? = some (.int .i64 (odd8 j : Nat)) := by
  obtain rfl | rfl | rfl | rfl | rfl | rfl | rfl | rfl : j = 0 ∨ j = 1 ∨ j = 2 ∨ j = 3 ∨ j = 4 ∨ j = 5 ∨ j = 6 ∨ j = 7 := by omega
  all_goals rfl
set_option maxHeartbeats 1000000 in
theorem oddprime_any (k : Int) (w : World) (h1 : 0 ≤ k) (h2 : k ≤ 255) :
    Calls Tryd.prog 25 #[.int .u8 k] w fun e w' => e = .returned (.int .i64 (odd8 (k % 8).toNat : Nat)) ∧ Below w.heap.size w w' := by
  have hr : k % 8 = 0 ∨ k % 8 = 1 ∨ k % 8 = 2 ∨ k % 8 = 3 ∨ k % 8 = 4 ∨ k % 8 = 5 ∨ k % 8 = 6 ∨ k % 8 = 7 := by omega
  obtain ⟨r, hrr⟩ : ∃ r, k % 8 = r := ⟨_, rfl⟩
  rw [hrr] at hr
  have HR := Lib.hid hrr
  rcases hr with rfl | rfl | rfl | rfl | rfl | rfl | rfl | rfl
  all_goals
    go_enter Tryd.func25, Tryd.ntmps25
    go_wp2_with fail
    go_ret
    refine ⟨?_, (Below.refl _ _).alloc (Nat.le_refl _) _⟩
    first | rfl | (rw [HR.out]; rfl)
/-- The sum of the symbols of 1 .. a - 1. -/
def ksum (p : Nat) : Nat → Int
  | 0 => 0
  | a + 1 => (if a = 0 then 0 else ksum p a + krZ a p)
def sqOk (p : Nat) : Bool := (List.range p).all (fun a => a == 0 || (krZ ((a : Int) * a) p == 1 && (krZ a p == 1 || krZ a p == -1))) && ksum p p == 0
theorem sq_all : (List.range 8).all (fun j => sqOk (odd8 j)) = true := by decide +kernel
theorem sq_ok (j : Nat) (h : j < 8) : sqOk (odd8 j) = true := by
  have := List.all_eq_true.1 sq_all j (by simpa using h)
  exact this
theorem sq_at' {p a : Nat} (h : sqOk p = true) (h1 : 1 ≤ a) (h2 : a < p) : krZ ((a : Int) * a) p = 1 ∧ (krZ a p = 1 ∨ krZ a p = -1) := by
  unfold sqOk at h
  rw [Bool.and_eq_true] at h
  have := List.all_eq_true.1 h.1 a (by simpa using h2)
  simp only [Bool.or_eq_true, Bool.and_eq_true, beq_iff_eq] at this
  rcases this with h0 | h0
  · omega
  · exact h0
theorem sq_sum {p : Nat} (h : sqOk p = true) : ksum p p = 0 := by
  unfold sqOk at h
  rw [Bool.and_eq_true, beq_iff_eq] at h
  exact h.2
theorem ksum_succ {p a : Nat} (h : 1 ≤ a) : ksum p (a + 1) = ksum p a + krZ a p := by rw [ksum, if_neg (by omega)]
theorem ksum_one (p : Nat) : ksum p 1 = 0 := rfl

set_option maxHeartbeats 2000000 in
theorem law_PrimeSquares (k : Int) (w : World) (wk : (Lit.int .u8 k).wf = true) (ht : Tab w) :
    Calls Tryd.prog 9 #[.int .u8 k] w fun e w' => e = .returned (.bool true) ∧ Below w.heap.size w w' := by
  obtain ⟨k1, k2⟩ := bounds_u8 wk
  have C0 := Lib.hid (oddprime_any k w k1 k2)
  have hp := odd8_bd (k % 8).toNat
  have HS := Lib.hid (sq_ok (k % 8).toNat (by omega))
  generalize odd8 (k % 8).toNat = p at *
  obtain ⟨p1, p2⟩ := hp
  have HT := Lib.hid ht
  clear ht wk
  go_enter Tryd.func9, Tryd.ntmps9
  go_wp2_with (go_at_call 25; refine C0.out.mono ?_; rintro e w1 ⟨rfl, hb⟩; have HB := Lib.hid hb; clear hb)
  go_loopg [4, 5] p (fun g s4 s5 wr => ∃ (a : Nat) (s : Int), a + g = p + 1 ∧ 1 ≤ a ∧ a ≤ p ∧ -(a : Int) ≤ s ∧ s ≤ (a : Int) ∧ s4 = .int .i64 s ∧ s5 = .int .i64 a ∧ s = ksum p a ∧ w1 = wr)
  case atStart => exact ⟨1, 0, by omega, by omega, by omega, by omega, by omega, rfl, rfl, (ksum_one p).symm, rfl⟩
  case round =>
    obtain ⟨a, s, hag, ha1, hap, hs1, hs2, rfl, rfl, hs, rfl⟩ := hrel
    have HSU := Lib.hid hs
    clear hs
    by_cases hlt : a < p
    · have hlti : (a : Int) < (p : Int) := by omega
      have haa : a * a ≤ 529 := Nat.mul_le_mul (show a ≤ 23 by omega) (show a ≤ 23 by omega)
      have haai : (a : Int) * (a : Int) ≤ 529 := castmul2_le haa
      have haa0 : 0 ≤ (a : Int) * (a : Int) := castmul_pos a
      obtain ⟨e1, e2⟩ := sq_at' HS.out ha1 hlt
      have K1 := Lib.hid (kron_any ((a : Int) * a) p w1 (by unfold InR; omega) (by unfold InR; omega))
      have K2 := Lib.hid (kron_any a p w1 (by unfold InR; omega) (by unfold InR; omega))
      rw [e1] at K1
      have HN : Hid (s + krZ a p = ksum p (a + 1)) := by show _ = _; rw [ksum_succ ha1, ← HSU.out]
      have hb3 : -1 ≤ krZ a p ∧ krZ a p ≤ 1 := by omega
      have hz : (krZ a p = 1 ∧ (krZ a p != 1) = false) ∨ (krZ a p = -1 ∧ (krZ a p != 1) = true ∧ (krZ a p != -1) = false) := by
        rcases e2 with h | h <;> rw [h] <;> simp
      generalize krZ (a : Int) p = y at *
      clear haa e1 e2 hlt HSU
      rcases hz with ⟨rfl, hz1⟩ | ⟨rfl, hz1, hz2⟩
      all_goals
        go_wp2_with fail
        refine K1.out.mono ?_
        rintro e w' ⟨rfl, rfl⟩
        go_wp2_with fail
        refine K2.out.mono ?_
        rintro e w' ⟨rfl, rfl⟩
        go_wp2_with fail
        go_roundg (p - a)
        case measure => omega
        case rel => exact ⟨a + 1, _, by omega, by omega, by omega, by omega, by omega, rfl, by go_num, HN.out, rfl⟩
    · have hlti : ¬ (a : Int) < (p : Int) := by omega
      obtain rfl : a = p := by omega
      have hs0 : s = 0 := by rw [HSU.out, sq_sum HS.out]
      subst hs0
      clear HSU hlt
      go_wp2_with (go_at_call 16; refine (awake_any _ (HT.out.below HB.out)).mono ?_; rintro e w2 ⟨rfl, hb2⟩; have HB2 := Lib.hid (below_two HB.out hb2); clear hb2)
      go_ret
      exact ⟨rfl, HB2.out⟩

/-! ### Gaps -/
def noDivB (n k : Nat) : Bool := (List.range k).all fun d => d < 2 || n % d != 0
theorem noDivB_ok {n k : Nat} (h : noDivB n k = true) : NoDiv n k := by
  intro d h1 h2 hd
  have := List.all_eq_true.1 h d (by simpa using h2)
  simp only [Bool.or_eq_true, decide_eq_true_eq, bne_iff_ne] at this
  rcases this with h' | h'
  · omega
  · exact h' (Nat.mod_eq_zero_of_dvd hd)
theorem isP_million : isP 1000003 = true := by
  have h : lf 1000003 = 1000003 := lf_of_sq 1000003 1001 (by omega) (noDivB_ok (by decide +kernel)) (by omega)
  unfold isP
  rw [h]
  decide
theorem next_some {n p : Int} {ok : Bool} (h : NextIs n p ok) (hn : n < 1000003) : ok = true ∧ isP p.toNat = true ∧ n < p ∧ p ≤ 2147483647 ∧ ∀ k : Int, n < k → k < p → isP k.toNat = false := by
  rcases h with ⟨rfl, h1, h2, h3⟩ | ⟨rfl, _, h3⟩
  · refine ⟨rfl, h1, h2, ?_, h3⟩
    have := ((isP_iff _).1 h1).2
    omega
  · have := h3 1000003 hn
    rw [show (1000003 : Int).toNat = 1000003 from rfl, isP_million] at this
    cases this

set_option maxHeartbeats 2000000 in
theorem law_PrimeGaps (n : Int) (w : World) (ht : Tab w) :
    Calls Tryd.prog 13 #[.int .i64 n] w fun e w' => e = .returned (.bool true) ∧ Below w.heap.size w w' := by
  obtain ⟨m, hm⟩ : ∃ m, n.tmod 1000000 = m := ⟨_, rfl⟩
  have m1 := Int.lt_tmod_of_pos n (show 0 < 1000000 by omega)
  have m2 := Int.tmod_lt_of_pos n (show 0 < 1000000 by omega)
  rw [hm] at m1 m2
  have HM := Lib.hid hm
  have C := Lib.hid (next_any m w ht)
  have HT := Lib.hid ht
  clear ht
  go_enter Tryd.func13, Tryd.ntmps13
  go_wp2_with fail
  refine C.out.mono ?_
  rintro e w1 ⟨p, ok, rfl, hN, rfl⟩
  obtain ⟨rfl, hp, hlt, hpb, hno⟩ := next_some hN (by omega)
  have HNO := Lib.hid hno
  have HP := Lib.hid hp
  have hp2 : 2 ≤ p := by
    have := ((isP_iff _).1 hp).1.1
    omega
  clear hno hp hN
  go_wp2_with fail
  refine (is_any p _ HT.out).mono ?_
  rintro e w' ⟨rfl, rfl⟩
  rw [HP.out]
  go_wp2_with fail
  all_goals
    clear hm
    go_loopg [2, 6] 4294967296 (fun g s2 s6 wr => ∃ k : Int, m < k ∧ k ≤ p ∧ p - k < (g : Int) ∧ s6 = .int .i64 k ∧ w = wr)
    case atStart => first | exact ⟨2, by omega, by omega, by omega, rfl, rfl⟩ | exact ⟨m + 1, by omega, by omega, by omega, rfl, rfl⟩
    case round =>
      obtain ⟨k, hk1, hk2, hkg, rfl, rfl⟩ := hrel
      by_cases hkp : k < p
      · have HF := Lib.hid (HNO.out k hk1 hkp)
        go_wp2_with (go_at_call 14; refine (is_any k _ HT.out).mono ?_; rintro e w' ⟨rfl, rfl⟩; rw [HF.out])
        go_roundg (gk - 1)
        case measure => omega
        case rel => exact ⟨k + 1, by omega, by omega, by omega, rfl, rfl⟩
      · go_wp2_with (go_at_call 16; refine (awake_any _ HT.out).mono ?_; rintro e w2 ⟨rfl, hb2⟩; have HB2 := Lib.hid hb2; clear hb2)
        go_ret
        exact ⟨rfl, HB2.out⟩
end Go.Proofs.YtifagnolobhhdaaDoor

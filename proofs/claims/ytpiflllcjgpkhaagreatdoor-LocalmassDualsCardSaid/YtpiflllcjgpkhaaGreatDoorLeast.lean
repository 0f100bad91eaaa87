import Derived.Test.YtpiflllcjgpkhaaGreatDoorProg
import Derived.Test.YtpiflllcjgpkhaaGreatDoorNum
import Derived.WalkKit
import Derived.WalkSpells
import Derived.WalkLawsBesides
import Derived.Deep.LoopGhost
import Derived.Lib.LaidTab
import Derived.Lib.Hide
import Derived.IntWalk
set_option maxRecDepth 3000
namespace Go.Proofs.YtpiflllcjgpkhaaGreatDoor
open Go.RowKit Num

theorem ret_bool {a b : Bool} (h : a = b) : Ending.returned (.bool a) = .returned (.bool b) := by rw [h]
theorem ret_int {k : IntKind} {a b : Int} (h : a = b) : Ending.returned (.int k a) = .returned (.int k b) := by rw [h]
theorem beq_cast (a b : Nat) : ((a : Int) == (b : Int)) = decide (a = b) := by
  rw [Bool.eq_iff_iff, beq_iff_eq, decide_eq_true_eq]; omega
def offsV : Array Value := #[.int .i64 7, .int .i64 11, .int .i64 13, .int .i64 17, .int .i64 19, .int .i64 23, .int .i64 29, .int .i64 31]
/-- The table of the offsets lies in its variable. -/
def Tab (w : World) : Prop := ∃ t fr, w.heap[1]? = some (.cells offsV t fr)

def three : Nat → Nat | 0 => 2 | 1 => 3 | _ => 5
theorem idx3 (k : Nat) (h : k < 3) (w : World) : (Instr.index 128 (.agg #[.int .i64 2, .int .i64 3, .int .i64 5]) (.int .i64 k)).run Tryz.prog w = .ok (.int .i64 (three k : Nat)) w := by
  obtain rfl | rfl | rfl : k = 0 ∨ k = 1 ∨ k = 2 := by omega
  all_goals kernel_rfl
theorem idx8 (k : Nat) (h : k < 8) (w : World) : (Instr.index 129 (.agg offsV) (.int .i64 k)).run Tryz.prog w = .ok (.int .i64 (off k : Nat)) w := by
  obtain rfl | rfl | rfl | rfl | rfl | rfl | rfl | rfl : k = 0 ∨ k = 1 ∨ k = 2 ∨ k = 3 ∨ k = 4 ∨ k = 5 ∨ k = 6 ∨ k = 7 := by omega
  all_goals kernel_rfl
theorem three_cases (k : Nat) (h : k < 3) : (k = 0 ∧ three k = 2) ∨ (k = 1 ∧ three k = 3) ∨ (k = 2 ∧ three k = 5) := by
  obtain rfl | rfl | rfl : k = 0 ∨ k = 1 ∨ k = 2 := by omega
  all_goals simp [three]
/-- What the first loop knows at round k. -/
def Past (n k : Nat) : Prop := (0 < k → ¬ 2 ∣ n) ∧ (1 < k → ¬ 3 ∣ n) ∧ (2 < k → ¬ 5 ∣ n)
theorem past_hit {n k : Nat} (h2 : 2 ≤ n) (h : k < 3) (hp : Past n k) (hd : n % three k = 0) : lf n = three k := by
  obtain ⟨a, b, c⟩ := hp
  have hd' := Nat.dvd_of_mod_eq_zero hd
  refine lf_unique n _ h2 (by rcases three_cases k h with h | h | h <;> omega) hd' ?_
  intro d hd1 hd2 hdn
  rcases three_cases k h with ⟨rfl, e⟩ | ⟨rfl, e⟩ | ⟨rfl, e⟩
  · omega
  · have : d = 2 := by omega
    subst this; exact a (by omega) hdn
  · have : d = 2 ∨ d = 3 ∨ d = 4 := by omega
    rcases this with rfl | rfl | rfl
    · exact a (by omega) hdn
    · exact b (by omega) hdn
    · exact a (by omega) (Nat.dvd_trans ⟨2, rfl⟩ hdn)
theorem past_next {n k : Nat} (h : k < 3) (hp : Past n k) (hd : n % three k ≠ 0) : Past n (k + 1) := by
  obtain ⟨a, b, c⟩ := hp
  unfold Past
  rcases three_cases k h with ⟨rfl, e⟩ | ⟨rfl, e⟩ | ⟨rfl, e⟩
  · rw [e] at hd; exact ⟨fun _ hx => hd (Nat.mod_eq_zero_of_dvd hx), by omega, by omega⟩
  · rw [e] at hd; exact ⟨fun _ => a (by omega), fun _ hx => hd (Nat.mod_eq_zero_of_dvd hx), by omega⟩
  · rw [e] at hd; exact ⟨fun _ => a (by omega), fun _ => b (by omega), fun _ hx => hd (Nat.mod_eq_zero_of_dvd hx)⟩

theorem sq_bd {a n : Nat} (h : a * a ≤ n) (hn : n ≤ 2147483647) : a ≤ 46340 := by
  rcases Nat.lt_or_ge 46340 a with h' | h'
  · have := Nat.mul_le_mul h' h'
    omega
  · exact h'
theorem castmul_le {d m : Nat} (h : d * d ≤ m) : (d : Int) * (d : Int) ≤ (m : Int) := by exact_mod_cast h
theorem castmul_le' {d m : Nat} (h : (d : Int) * (d : Int) ≤ (m : Int)) : d * d ≤ m := by exact_mod_cast h
theorem castmul_lt {d m : Nat} (h : (m : Int) < (d : Int) * (d : Int)) : m < d * d := by exact_mod_cast h
theorem castmul_pos (d : Nat) : 0 ≤ (d : Int) * (d : Int) := by exact_mod_cast Nat.zero_le (d * d)
theorem le_sq (a : Nat) {n : Nat} (h : a * a ≤ n) : a ≤ n := by
  rcases Nat.eq_zero_or_pos a with h' | h'
  · omega
  · exact Nat.le_trans (Nat.le_mul_of_pos_left a h') h
set_option maxHeartbeats 400000 in
theorem least_any (n : Nat) (w : World) (h1 : 2 ≤ n) (h2 : n ≤ 2147483647) (ht : Tab w) :
    Calls Tryz.prog 64 #[.int .i64 n] w fun e w' => e = .returned (.int .i64 (lf n)) ∧ w = w' := by
  go_enter Tryz.func64, Tryz.ntmps64
  go_wp2
  go_step3
  go_wp2
  go_loopg [2, 4, 11] 3 (fun g t u i wr => ∃ k : Nat, k + g = 3 ∧ i = .int .i64 k ∧ w = wr ∧ Past n k)
  case atStart => exact ⟨0, rfl, rfl, rfl, by omega, by omega, by omega⟩
  case round =>
    obtain ⟨k, hk, rfl, rfl, HP⟩ := hrel
    cases gk with
    | succ g =>
      have hlt : (k : Int) < 3 := by omega
      have hx := idx3 k (by omega) w
      have h3 : 2 ≤ three k := by rcases three_cases k (by omega) with h | h | h <;> omega
      by_cases hd : n % three k = 0
      · have hb : ((n : Int) % (three k : Int) == 0) = true := by rw [beq_iff_eq]; omega
        have HL := Lib.hid (past_hit h1 (by omega) HP hd)
        clear HP hd
        go_wp2
        rw [Exit.noGoto_ret]
        go_ret
        exact ⟨by rw [HL.out]; rfl, rfl⟩
      · have hb : ((n : Int) % (three k : Int) == 0) = false := by rw [beq_eq_false_iff_ne]; omega
        have HL := Lib.hid (past_next (by omega) HP hd)
        clear HP hd
        go_wp2
        go_roundg g
        case measure => omega
        case rel => exact ⟨k + 1, by omega, by go_num, rfl, HL.out⟩
    | zero =>
      obtain rfl : k = 3 := by omega
      have E2 := Lib.hid (HP.1 (by omega))
      have E3 := Lib.hid (HP.2.1 (by omega))
      have E5 := Lib.hid (HP.2.2 (by omega))
      obtain ⟨tt, fr, htab⟩ := ht
      clear HP
      go_wp2
      go_step3
      go_wp2
      go_loopg [5, 6] n (fun g s5 s6 wr => ∃ b : Nat, b + g = n ∧ s5 = .int .i64 n ∧ s6 = .int .i64 (30 * (b : Int)) ∧ w = wr ∧ Num.NoDiv n (30 * b + 7) ∧ (30 * b) * (30 * b) ≤ n)
      case atStart => exact ⟨0, by omega, rfl, rfl, rfl, Num.wheel_start E2.out E3.out E5.out, by omega⟩
      case round =>
        obtain ⟨b, hbg, rfl, rfl, rfl, HN, hsq⟩ := hrel
        obtain ⟨go, rfl⟩ : ∃ go : Nat, go = gk := ⟨_, rfl⟩
        have hb : 30 * b ≤ 46340 := sq_bd hsq h2
        have HS := Lib.hid hsq
        clear hsq
        go_wp2_with (refine wpList_load_row rfl _ _ rfl 1 rfl tt offsV fr _ htab Tryz.underlying129 rfl (by kernel_rfl) ?_)
        go_loopg [5, 24] 8 (fun g s5 s24 wr => ∃ k : Nat, k + g = 8 ∧ s5 = .int .i64 n ∧ s24 = .int .i64 k ∧ w = wr ∧ Num.NoDiv n (30 * b + off k) ∧ (30 * b) * (30 * b) ≤ n ∧ (k = 8 → (30 * (b + 1)) * (30 * (b + 1)) ≤ n))
        case atStart => exact ⟨0, by omega, rfl, rfl, rfl, HN, HS.out, by omega⟩
        case round =>
          obtain ⟨k, hk8, rfl, rfl, rfl, HK, hs1, hs2⟩ := hrel
          have HS1 := Lib.hid hs1
          have HS2 := Lib.hid hs2
          clear hs1 hs2
          cases gk with
          | zero =>
            obtain rfl : k = 8 := by omega
            have hq := HS2.out rfl
            have hq1 := le_sq (30 * (b + 1)) hq
            have HQ := Lib.hid hq
            clear hq HS2
            go_wp2
            go_roundg (n - (b + 1))
            case measure => omega
            case rel => exact ⟨b + 1, by omega, rfl, by go_num, rfl, HK, HQ.out⟩
          | succ g =>
            have hlt : (k : Int) < 8 := by omega
            have hx := idx8 k (by omega) w
            have ho := Num.off_bd k
            have ho7 := Num.off_bd7 k (by omega)
            obtain ⟨d, hd⟩ : ∃ d : Nat, 30 * b + off k = d := ⟨_, rfl⟩
            have hdi : (30 * (b : Int) + (off k : Int)) = (d : Int) := by omega
            have hdb : d ≤ 46371 := by omega
            have hd7 : 7 ≤ d := by omega
            rw [hd] at HK
            have HD := Lib.hid hd
            have hdd : d * d ≤ 2150269641 := Nat.mul_le_mul hdb hdb
            have hddi : (d : Int) * (d : Int) ≤ 2150269641 := by have := castmul_le hdd; omega
            have hddp : 0 ≤ (d : Int) * (d : Int) := castmul_pos d
            clear hd hdd
            by_cases hsq : (n : Int) < (d : Int) * (d : Int)
            · have HL := Lib.hid (Num.lf_of_sq n d h1 HK (castmul_lt hsq))
              go_wp2
              rw [Exit.noGoto_ret]
              go_ret
              exact ⟨by rw [HL.out]; rfl, rfl⟩
            · have hsq' : (d : Int) * (d : Int) ≤ (n : Int) := by omega
              by_cases hdv : n % d = 0
              · have hb : ((n : Int) % (d : Int) == 0) = true := by rw [beq_iff_eq]; omega
                have HL := Lib.hid (Num.lf_unique n d h1 (by omega) (Nat.dvd_of_mod_eq_zero hdv) HK)
                clear hdv hsq
                go_wp2
                rw [Exit.noGoto_ret]
                go_ret
                exact ⟨by rw [HL.out]; rfl, rfl⟩
              · have hb : ((n : Int) % (d : Int) == 0) = false := by rw [beq_eq_false_iff_ne]; omega
                have HL := Lib.hid (show Num.NoDiv n (30 * b + off (k + 1)) from Num.wheel_step (by omega) (by rw [HD.out]; exact HK) E2.out E3.out E5.out (by rw [HD.out]; exact fun hx => hdv (Nat.mod_eq_zero_of_dvd hx)))
                clear hdv hsq
                go_wp2
                go_roundg g
                case measure => omega
                case rel => exact ⟨k + 1, by omega, rfl, by go_num, rfl, HL.out, HS1.out, fun h => by
                  obtain rfl : k = 7 := by omega
                  have e := HD.out
                  simp only [off] at e
                  have : 30 * (b + 1) ≤ d := by omega
                  exact Nat.le_trans (Nat.mul_le_mul this this) (castmul_le' hsq')⟩

theorem isP_big {n : Nat} (h : 2147483647 < n) : isP n = false := by
  unfold isP; rw [decide_eq_false (p := n ≤ 2147483647) (by omega)]; simp
theorem isP_small {n : Nat} (h : n < 2) : isP n = false := by
  unfold isP; rw [decide_eq_false (p := 2 ≤ n) (by omega)]; simp
theorem isP_mid {n : Nat} (h1 : 2 ≤ n) (h2 : n ≤ 2147483647) : isP n = decide (lf n = n) := by
  unfold isP; rw [decide_eq_true h1, decide_eq_true h2]; simp only [Bool.true_and]; rfl

set_option maxHeartbeats 400000 in
theorem is_any (n : Int) (w : World) (ht : Tab w) :
    Calls Tryz.prog 37 #[.int .i64 n] w fun e w' => e = .returned (.bool (isP n.toNat)) ∧ w = w' := by
  by_cases h1 : 2 ≤ n
  · by_cases h2 : n ≤ 2147483647
    · obtain ⟨m, rfl⟩ := Int.eq_ofNat_of_zero_le (show 0 ≤ n by omega)
      have HP := Lib.hid (isP_mid (n := m) (by omega) (by omega))
      go_enter Tryz.func37, Tryz.ntmps37
      go_wp2_with (go_at_call 64; refine (least_any m _ (by omega) (by omega) ht).mono ?_; rintro e w' ⟨rfl, rfl⟩)
      go_ret
      refine ⟨?_, rfl⟩
      rw [Int.toNat_natCast, HP.out]
      exact ret_bool (beq_cast _ _)
    · have h2' : ¬ n ≤ 2147483647 := h2
      have HP := Lib.hid (isP_big (n := n.toNat) (by omega))
      go_enter Tryz.func37, Tryz.ntmps37
      go_wp2_with fail
      go_ret
      exact ⟨by rw [HP.out]; rfl, rfl⟩
  · have HP := Lib.hid (isP_small (n := n.toNat) (by omega))
    go_enter Tryz.func37, Tryz.ntmps37
    go_wp2_with fail
    go_ret
    exact ⟨by rw [HP.out]; rfl, rfl⟩

set_option maxHeartbeats 400000 in
/-- The reference's own test. -/
theorem ris_any (n : Int) (w : World) :
    Calls Tryz.prog 43 #[.int .i64 n] w fun e w' => e = .returned (.bool (isP n.toNat)) ∧ w = w' := by
  by_cases h1 : 2 ≤ n
  · by_cases h2 : n ≤ 2147483647
    · obtain ⟨m, rfl⟩ := Int.eq_ofNat_of_zero_le (show 0 ≤ n by omega)
      have h1n : 2 ≤ m := by omega
      have h2n : m ≤ 2147483647 := by omega
      go_enter Tryz.func43, Tryz.ntmps43
      go_wp2
      go_loopg [2, 3] m (fun g s2 s3 wr => ∃ d : Nat, d + g = m + 2 ∧ 2 ≤ d ∧ (d - 1) * (d - 1) ≤ m ∧ s3 = .int .i64 d ∧ w = wr ∧ NoDiv m d)
      case atStart => exact ⟨2, by omega, by omega, by omega, rfl, rfl, fun d h1 h2 => by omega⟩
      case round =>
        obtain ⟨d, hdg, hd2, hs, rfl, rfl, HN⟩ := hrel
        have hdb : d ≤ 46341 := by have := sq_bd hs h2n; omega
        have hdd : d * d ≤ 2147488281 := Nat.mul_le_mul hdb hdb
        have hddi : (d : Int) * (d : Int) ≤ 2147488281 := by have := castmul_le hdd; omega
        have hddp : 0 ≤ (d : Int) * (d : Int) := castmul_pos d
        clear hs hdd
        by_cases hsq : (d : Int) * (d : Int) ≤ (m : Int)
        · have hsq' := castmul_le' hsq
          have hdm := le_sq d hsq'
          have HSQ := Lib.hid hsq'
          clear hsq'
          by_cases hdv : m % d = 0
          · have hb : ((m : Int) % (d : Int) == 0) = true := by rw [beq_iff_eq]; omega
            have HL := Lib.hid (lf_unique m d h1n hd2 (Nat.dvd_of_mod_eq_zero hdv) HN)
            have HNE : Hid (d ≠ m) := by
              show d ≠ m
              rintro rfl
              have := HSQ.out
              have := Nat.mul_le_mul_left d hd2
              omega
            have HP := Lib.hid (isP_mid h1n h2n)
            clear hdv
            go_wp2
            go_ret
            exact ⟨ret_bool (by rw [Int.toNat_natCast, HP.out, HL.out, decide_eq_false HNE.out]), rfl⟩
          · have hb : ((m : Int) % (d : Int) == 0) = false := by rw [beq_eq_false_iff_ne]; omega
            have HL : Hid (NoDiv m (d + 1)) := by
              intro x hx1 hx2
              by_cases hxd : x = d
              · subst hxd; exact fun h => hdv (Nat.mod_eq_zero_of_dvd h)
              · exact HN x hx1 (by omega)
            clear hdv
            go_wp2
            go_roundg (m + 2 - (d + 1))
            case measure => omega
            case rel => exact ⟨d + 1, by omega, by omega, HSQ.out, by go_num, rfl, HL.out⟩
        · have HL := Lib.hid (lf_of_sq m d h1n HN (castmul_lt (by omega)))
          have HP := Lib.hid (isP_mid h1n h2n)
          go_wp2
          go_ret
          exact ⟨ret_bool (by (try rw [Int.toNat_natCast]); rw [HP.out, HL.out, decide_eq_true rfl]), rfl⟩
    · have HP := Lib.hid (isP_big (n := n.toNat) (by omega))
      go_enter Tryz.func43, Tryz.ntmps43
      go_wp2_with fail
      go_ret
      exact ⟨by rw [HP.out]; rfl, rfl⟩
  · have HP := Lib.hid (isP_small (n := n.toNat) (by omega))
    go_enter Tryz.func43, Tryz.ntmps43
    go_wp2_with fail
    go_ret
    exact ⟨by rw [HP.out]; rfl, rfl⟩

/-- (p, ok): the least prime number above n, or that there is none up to the greatest number. -/
def NextIs (n p : Int) (ok : Bool) : Prop :=
  (ok = true ∧ isP p.toNat = true ∧ n < p ∧ ∀ k : Int, n < k → k < p → isP k.toNat = false) ∨ (ok = false ∧ p = 0 ∧ ∀ k : Int, n < k → isP k.toNat = false)
theorem NextIs.unique {n p q : Int} {a b : Bool} (h1 : NextIs n p a) (h2 : NextIs n q b) : p = q ∧ a = b := by
  rcases h1 with ⟨rfl, i1, l1, m1⟩ | ⟨rfl, rfl, m1⟩ <;> rcases h2 with ⟨rfl, i2, l2, m2⟩ | ⟨rfl, rfl, m2⟩
  · refine ⟨?_, rfl⟩
    rcases Int.lt_trichotomy p q with h | h | h
    · rw [m2 p l1 h] at i1; cases i1
    · exact h
    · rw [m1 q l2 h] at i2; cases i2
  · rw [m2 p l1] at i1; cases i1
  · rw [m1 q l2] at i2; cases i2
  · exact ⟨rfl, rfl⟩
/-- No prime number from lo + 1 to hi. -/
def NoP (lo hi : Int) : Prop := ∀ k : Int, lo < k → k ≤ hi → isP k.toNat = false
theorem NoP.succ {lo hi : Int} (h : NoP lo hi) (hp : isP (hi + 1).toNat = false) : NoP lo (hi + 1) := fun k h1 h2 => by
  by_cases e : k = hi + 1
  · rw [e]; exact hp
  · exact h k h1 (by omega)
theorem NoP.none {lo hi : Int} (h : NoP lo hi) (hb : 2147483647 ≤ hi) : NextIs lo 0 false := .inr ⟨rfl, rfl, fun k h1 => by
  by_cases e : k ≤ hi
  · exact h k h1 e
  · exact isP_big (by omega)⟩
end Go.Proofs.YtpiflllcjgpkhaaGreatDoor

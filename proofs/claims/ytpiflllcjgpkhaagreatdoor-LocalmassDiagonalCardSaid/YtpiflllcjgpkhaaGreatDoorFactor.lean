import Derived.Test.YtpiflllcjgpkhaaGreatDoorKron
import Derived.Test.YtpiflllcjgpkhaaGreatDoorPow
import Derived.Test.YtpiflllcjgpkhaaGreatDoorMem
set_option maxRecDepth 3000
namespace Go.Proofs.YtpiflllcjgpkhaaGreatDoor
open Go.RowKit Num

/-- The cells of a list of powers. -/
def powCells (L : List (Nat × Nat)) : List Value := L.flatMap fun x => [.int .i64 (x.1 : Nat), .int .i64 (x.2 : Nat)]
theorem powCells_length (L : List (Nat × Nat)) : (powCells L).length = L.length * 2 := by
  induction L with
  | nil => rfl
  | cons x l ih => simp [powCells] at *; omega
theorem powCells_snoc (L : List (Nat × Nat)) (p e : Nat) : powCells (L ++ [(p, e)]) = powCells L ++ [.int .i64 p, .int .i64 e] := by
  simp [powCells]
theorem Tab.below {w w' : World} (h : Tab w) (hb : Below w.heap.size w w') : Tab w' := by
  obtain ⟨tt, fr, h⟩ := h
  refine ⟨tt, fr, ?_⟩
  rw [hb.block _ ?_]; exact h
  exact (Array.getElem?_eq_some_iff.1 h).1
theorem infoPow : (Tryz.prog.info? 105).map (fun i => (i.zero, i.size, i.bytes)) = some (some (.agg #[.int .i64 0, .int .i64 0]), 2, 16) := by kernel_rfl

/-- What Factor hands back. -/
def FactorPost (N : Nat) (w : World) (e : Ending) (w' : World) : Prop :=
  ∃ v, e = .returned (.tuple #[v, .int .i64 0]) ∧ w'.ownsRow w.heap.size 105 2 v (pw N).length (powCells (pw N)) ∧ Below w.heap.size w w'

theorem factor_out (n : Int) (w : World) (h : n < 1 ∨ 2147483647 < n) :
    Calls Tryz.prog 66 #[.int .i64 n] w fun e w' => e = .returned (.tuple #[.slice none 0 0, .int .i64 1]) ∧ w = w' := by
  rcases h with h | h
  · go_enter Tryz.func66, Tryz.ntmps66
    go_wp2_with fail
    go_ret2
    exact ⟨rfl, rfl⟩
  · go_enter Tryz.func66, Tryz.ntmps66
    go_wp2_with fail
    go_ret2
    exact ⟨rfl, rfl⟩

set_option maxHeartbeats 1000000 in
theorem factor_any (N : Nat) (w : World) (h1 : 1 ≤ N) (h2 : N ≤ 2147483647) (ht : Tab w) :
    Calls Tryz.prog 66 #[.int .i64 N] w (FactorPost N w) := by
  obtain ⟨i0, hi, hx⟩ := Option.map_eq_some_iff.1 infoPow
  simp only [Prod.mk.injEq] at hx
  obtain ⟨hz0, hz1, hz2⟩ := hx
  go_enter Tryz.func66, Tryz.ntmps66
  go_wp2_with fail
  go_loopg [0, 4, 5] N (fun g s0 s4 s5 wr => ∃ (m : Nat) (L : List (Nat × Nat)), m ≤ g ∧ m ≤ N ∧ s0 = .int .i64 m ∧ FInv L m N ∧ wr.ownsRow w.heap.size 105 2 s4 L.length (powCells L) ∧ Below w.heap.size w wr)
  case atStart => exact ⟨N, [], by omega, by omega, rfl, FInv.start N h1, World.ownsRow_nil _ _ _ _, Below.refl _ _⟩
  case round =>
    obtain ⟨m, L, hmg, hmN, rfl, HI, hown, hbel⟩ := hrel
    by_cases hm : 2 ≤ m
    · have htr := ht.below hbel
      have hl2 := (lf_spec m hm).1
      have hlm := lf_le m hm
      obtain ⟨p, hp⟩ : ∃ p, lf m = p := ⟨_, rfl⟩
      have cL := least_any m wr hm (by omega) htr
      rw [hp] at cL hl2 hlm
      have CL := Lib.hid cL
      clear cL
      have hgt : (1 : Int) < (m : Int) := by omega
      have HP := Lib.hid hp
      have HX := Lib.hid (show wr.ownsRow w.heap.size 105 2 u4 L.length (powCells L) ∧ Below w.heap.size w wr from ⟨hown, hbel⟩)
      clear hp hown hbel htr ht
      obtain ⟨wo, rfl⟩ : ∃ wo : World, wo = wr := ⟨_, rfl⟩
      obtain ⟨go, rfl⟩ : ∃ go : Nat, go = gk := ⟨_, rfl⟩
      go_wp2_with (go_at_call 64; refine CL.out.mono ?_; rintro e w' ⟨rfl, rfl⟩)
      go_loopg [0] m (fun g s0 wx => ∃ r e : Nat, r ≤ g ∧ 1 ≤ r ∧ r ≤ m ∧ e ≤ 31 ∧ s0 = .int .i64 r ∧ wx = wo.alloc (.cells #[.int .i64 p, .int .i64 e] 105) ∧ m = r * p ^ e)
      case atStart => exact ⟨m, 0, by omega, by omega, by omega, by omega, rfl, rfl, by rw [Nat.pow_zero, Nat.mul_one]⟩
      case round =>
        obtain ⟨r, e, hrg, hr1, hrm, he31, rfl, rfl, hme⟩ := hrel
        by_cases hd : r % p = 0
        · have hb : ((r : Int) % (p : Int) == 0) = true := by rw [beq_iff_eq]; omega
          have hdiv := Nat.mul_div_cancel' (Nat.dvd_of_mod_eq_zero hd)
          have hq1 : 1 ≤ r / p := by
            rcases Nat.eq_zero_or_pos (r / p) with h0 | h0
            · rw [h0] at hdiv; omega
            · exact h0
          have hqlt : r / p < r := Nat.div_lt_self (by omega) (by omega)
          have HE : Hid (m = (r / p) * p ^ (e + 1)) := by
            show m = (r / p) * p ^ (e + 1)
            rw [Nat.pow_succ, Nat.mul_comm (p ^ e), ← Nat.mul_assoc, Nat.mul_comm (r / p), hdiv]; exact hme
          have he30 : e + 1 ≤ 31 := by
            have h3 := HE.out
            have : p ^ (e + 1) ≤ m := by
              have := Nat.mul_le_mul_right (p ^ (e + 1)) hq1
              omega
            have := exp_bd hl2 this (by omega)
            omega
          clear hd hdiv hme
          go_wp2
          go_roundg (r / p)
          case measure => omega
          case rel => exact ⟨r / p, e + 1, by omega, by omega, by omega, by omega, by go_num, by go_num, HE.out⟩
        · have hb : ((r : Int) % (p : Int) == 0) = false := by rw [beq_eq_false_iff_ne]; omega
          have HE := Lib.hid (show FInv (L ++ [(p, e)]) r N by
            have := HI.step hm (r := r) (e := e) (by rw [HP.out]; exact hme) (by rw [HP.out]; exact fun h => hd (Nat.mod_eq_zero_of_dvd h))
            rwa [HP.out] at this)
          have hlt : r < m := by
            have := (rest_lt hm (r := r) (e := e) (by rw [HP.out]; exact hme) (by rw [HP.out]; exact fun h => hd (Nat.mod_eq_zero_of_dvd h))).1
            exact this
          have hlen := HI.len h2
          have hlen2 := HE.out.len h2
          clear hd hme
          obtain ⟨hown, hbel⟩ := HX.out
          have hsz := hbel.size
          go_wp2_with (at_builtin; refine wpList_append_own _ rfl _ _ 101 rfl w.heap.size 105 i0 (.agg #[.int .i64 0, .int .i64 0]) 2 16 Tryz.underlying101 hi hz0 hz1 hz2 rfl (by decide) _ _ _ rfl ((hown.alloc _).alloc _) ⟨wo.heap.size + 1, 0, none⟩ 1 1 [.int .i64 p, .int .i64 e] rfl rfl ?c1 ?c2 ?c3 ?c4 ?c5 ?_)
          case c1 => exact cells_new _ _ (by simp) [.int .i64 p, .int .i64 e] _
          case c2 => exact one_ints _ (by simp)
          case c3 => unfold maxLen; omega
          case c4 => omega
          case c5 => simp; omega
          intro v' w1 hown' hgrow _
          have HX2 : Hid (w1.ownsRow w.heap.size 105 2 v' (L ++ [(p, e)]).length (powCells (L ++ [(p, e)])) ∧ Below w.heap.size w w1) := by
            refine ⟨?_, ?_⟩
            · rw [powCells_snoc, List.length_append]; exact hown'
            · exact ((hbel.alloc hsz _).alloc (by simp; omega) _).grown hgrow (by simp; omega) fun k hk => (hown.lt k hk).1
          clear hown' hgrow hown hbel HX
          go_wp2
          go_roundg r
          case measure => omega
          case rel => exact ⟨r, L ++ [(p, e)], by omega, by omega, rfl, HE.out, HX2.out.1, HX2.out.2⟩
    · have hgt : ¬ (1 : Int) < (m : Int) := by omega
      have HE := Lib.hid (HI.done (by omega))
      have HX := Lib.hid (show wr.ownsRow w.heap.size 105 2 u4 L.length (powCells L) ∧ Below w.heap.size w wr from ⟨hown, hbel⟩)
      clear hown hbel
      go_wp2
      go_ret2
      refine ⟨_, rfl, ?_, HX.out.2⟩
      rw [← HE.out]; exact HX.out.1

theorem rfactor_out (n : Int) (w : World) (h : n < 1 ∨ 2147483647 < n) :
    Calls Tryz.prog 72 #[.int .i64 n] w fun e w' => e = .returned (.tuple #[.slice none 0 0, .int .i64 1]) ∧ w = w' := by
  rcases h with h | h
  · go_enter Tryz.func72, Tryz.ntmps72
    go_wp2_with fail
    go_ret2
    exact ⟨rfl, rfl⟩
  · go_enter Tryz.func72, Tryz.ntmps72
    go_wp2_with fail
    go_ret2
    exact ⟨rfl, rfl⟩
theorem noDiv_sub {m r d e : Nat} (h : NoDiv m d) (he : m = r * d ^ e) (hr : ¬ d ∣ r) : NoDiv r (d + 1) := by
  intro x hx1 hx2 hx
  by_cases hxd : x = d
  · subst hxd; exact hr hx
  · exact h x hx1 (by omega) (he ▸ Nat.dvd_mul_right_of_dvd hx _)

set_option maxHeartbeats 1000000 in
theorem rfactor_any (N : Nat) (w : World) (h1 : 1 ≤ N) (h2 : N ≤ 2147483647) :
    Calls Tryz.prog 72 #[.int .i64 N] w (FactorPost N w) := by
  obtain ⟨i0, hi, hx⟩ := Option.map_eq_some_iff.1 infoPow
  simp only [Prod.mk.injEq] at hx
  obtain ⟨hz0, hz1, hz2⟩ := hx
  go_enter Tryz.func72, Tryz.ntmps72
  go_wp2_with fail
  go_loopg [0, 4, 5, 6] (N + 1) (fun g s0 s4 s5 s6 wr => ∃ (m d : Nat) (L : List (Nat × Nat)), d + g = N + 3 ∧ 2 ≤ d ∧ (d - 1) * (d - 1) ≤ N ∧ s0 = .int .i64 m ∧ s5 = .int .i64 d ∧ FInv L m N ∧ NoDiv m d ∧ wr.ownsRow w.heap.size 105 2 s4 L.length (powCells L) ∧ Below w.heap.size w wr)
  case atStart => exact ⟨N, 2, [], by omega, by omega, by omega, rfl, rfl, FInv.start N h1, fun d h1 h2 => by omega, World.ownsRow_nil _ _ _ _, Below.refl _ _⟩
  case round =>
    obtain ⟨m, d, L, hdg, hd2, hsq, rfl, rfl, HI, HN, hown, hbel⟩ := hrel
    have hmN := HI.le
    have hdb : d ≤ 46341 := by have := sq_bd hsq h2; omega
    have hdN : d ≤ N + 1 := by have := le_sq _ hsq; omega
    have hdd : d * d ≤ 2147488281 := Nat.mul_le_mul hdb hdb
    have hddi : (d : Int) * (d : Int) ≤ 2147488281 := by have := castmul_le hdd; omega
    have hddp : 0 ≤ (d : Int) * (d : Int) := castmul_pos d
    have hm1 := HI.1
    have hlen := HI.len h2
    have hsz := hbel.size
    have HX := Lib.hid (show wr.ownsRow w.heap.size 105 2 u4 L.length (powCells L) ∧ Below w.heap.size w wr from ⟨hown, hbel⟩)
    clear hsq hdd hown hbel
    obtain ⟨wo, rfl⟩ : ∃ wo : World, wo = wr := ⟨_, rfl⟩
    obtain ⟨go, rfl⟩ : ∃ go : Nat, go = gk := ⟨_, rfl⟩
    by_cases hsq : (d : Int) * (d : Int) ≤ (m : Int)
    · have hsq' := castmul_le' hsq
      have HSQ : Hid ((d + 1 - 1) * (d + 1 - 1) ≤ N) := by show (d + 1 - 1) * (d + 1 - 1) ≤ N; rw [Nat.add_sub_cancel]; omega
      have hdm := le_sq d hsq'
      clear hsq'
      go_wp2_with fail
      go_loopg [0, 6] m (fun g s0 s6 wx => ∃ r e : Nat, r ≤ g ∧ 1 ≤ r ∧ r ≤ m ∧ e ≤ 31 ∧ s0 = .int .i64 r ∧ s6 = .int .i64 e ∧ wo = wx ∧ m = r * d ^ e)
      case atStart => exact ⟨m, 0, by omega, by omega, by omega, by omega, rfl, rfl, rfl, by rw [Nat.pow_zero, Nat.mul_one]⟩
      case round =>
        obtain ⟨r, e, hrg, hr1, hrm, he31, rfl, rfl, rfl, hme⟩ := hrel
        by_cases hd : r % d = 0
        · have hb : ((r : Int) % (d : Int) == 0) = true := by rw [beq_iff_eq]; omega
          have hdiv := Nat.mul_div_cancel' (Nat.dvd_of_mod_eq_zero hd)
          have hq1 : 1 ≤ r / d := by
            rcases Nat.eq_zero_or_pos (r / d) with h0 | h0
            · rw [h0] at hdiv; omega
            · exact h0
          have hqlt : r / d < r := Nat.div_lt_self (by omega) (by omega)
          have HE : Hid (m = (r / d) * d ^ (e + 1)) := by
            show m = (r / d) * d ^ (e + 1)
            rw [Nat.pow_succ, Nat.mul_comm (d ^ e), ← Nat.mul_assoc, Nat.mul_comm (r / d), hdiv]; exact hme
          have he30 : e + 1 ≤ 31 := by
            have h3 := HE.out
            have : d ^ (e + 1) ≤ m := by
              have := Nat.mul_le_mul_right (d ^ (e + 1)) hq1
              omega
            have := exp_bd hd2 this (by omega)
            omega
          clear hd hdiv hme
          go_wp2_with fail
          go_roundg (r / d)
          case measure => omega
          case rel => exact ⟨r / d, e + 1, by omega, by omega, by omega, by omega, by go_num, by go_num, rfl, HE.out⟩
        · have hb : ((r : Int) % (d : Int) == 0) = false := by rw [beq_eq_false_iff_ne]; omega
          have hndr : ¬ d ∣ r := fun h => hd (Nat.mod_eq_zero_of_dvd h)
          have HND := Lib.hid (noDiv_sub HN hme hndr)
          by_cases he0 : e = 0
          · subst he0
            have HE : Hid (FInv L r N) := by rw [Nat.pow_zero, Nat.mul_one] at hme; show FInv L r N; rw [← hme]; exact HI
            clear hd hme hndr
            go_wp2_with fail
            go_roundg (N + 3 - (d + 1))
            case measure => omega
            case rel => exact ⟨r, d + 1, L, by omega, by omega, HSQ.out, rfl, by go_num, HE.out, HND.out, HX.out.1, HX.out.2⟩
          · have hl : lf m = d := lf_unique m d (by omega) hd2 (by
              obtain ⟨k, rfl⟩ : ∃ k, e = k + 1 := ⟨e - 1, by omega⟩
              rw [hme, Nat.pow_succ, ← Nat.mul_assoc]; exact Nat.dvd_mul_left _ _) HN
            have HE : Hid (FInv (L ++ [(d, e)]) r N) := by
              have := HI.step (r := r) (e := e) (by omega) (by rw [hl]; exact hme) (by rw [hl]; exact hndr)
              rwa [hl] at this
            have he1 : (0 : Int) < (e : Int) := by omega
            clear hd hme hndr hl he0
            obtain ⟨hown, hbel⟩ := HX.out
            go_wp2_with (at_builtin; refine wpList_append_own _ rfl _ _ 101 rfl w.heap.size 105 i0 (.agg #[.int .i64 0, .int .i64 0]) 2 16 Tryz.underlying101 hi hz0 hz1 hz2 rfl (by decide) _ _ _ rfl (hown.alloc _) ⟨wo.heap.size, 0, none⟩ 1 1 [.int .i64 d, .int .i64 e] rfl rfl ?c1 ?c2 ?c3 ?c4 ?c5 ?_)
            case c1 => exact cells_new _ _ (by simp) [.int .i64 d, .int .i64 e] _
            case c2 => exact one_ints _ (by simp)
            case c3 => unfold maxLen; omega
            case c4 => omega
            case c5 => simp; omega
            intro v' w1 hown' hgrow _
            have HX2 : Hid (w1.ownsRow w.heap.size 105 2 v' (L ++ [(d, e)]).length (powCells (L ++ [(d, e)])) ∧ Below w.heap.size w w1) := by
              refine ⟨?_, ?_⟩
              · rw [powCells_snoc, List.length_append]; exact hown'
              · exact (hbel.alloc hsz _).grown hgrow (by simp; omega) fun k hk => (hown.lt k hk).1
            clear hown' hgrow hown hbel HX
            go_wp2_with fail
            go_roundg (N + 3 - (d + 1))
            case measure => omega
            case rel => exact ⟨r, d + 1, L ++ [(d, e)], by omega, by omega, HSQ.out, rfl, by go_num, HE.out, HND.out, HX2.out.1, HX2.out.2⟩
    · by_cases hm2 : 2 ≤ m
      · have hl := lf_of_sq m d hm2 HN (castmul_lt (by omega))
        have HE : Hid (FInv (L ++ [(m, 1)]) 1 N) := by
          have := HI.step (r := 1) (e := 1) hm2 (by rw [hl, Nat.pow_one, Nat.one_mul]) (by rw [hl]; exact not_dvd_small (by omega) (by omega))
          rwa [hl] at this
        have hgt : (1 : Int) < (m : Int) := by omega
        clear hl
        obtain ⟨hown, hbel⟩ := HX.out
        go_wp2_with (at_builtin; refine wpList_append_own _ rfl _ _ 101 rfl w.heap.size 105 i0 (.agg #[.int .i64 0, .int .i64 0]) 2 16 Tryz.underlying101 hi hz0 hz1 hz2 rfl (by decide) _ _ _ rfl (hown.alloc _) ⟨wo.heap.size, 0, none⟩ 1 1 [.int .i64 m, .int .i64 1] rfl rfl ?d1 ?d2 ?d3 ?d4 ?d5 ?_)
        case d2 => exact ⟨rfl, rfl⟩
        case d3 => unfold maxLen; omega
        case d4 => omega
        case d5 => omega
        intro v' w1 hown' hgrow _
        have HX2 : Hid (w1.ownsRow w.heap.size 105 2 v' (L ++ [(m, 1)]).length (powCells (L ++ [(m, 1)])) ∧ Below w.heap.size w w1) := by
          refine ⟨?_, ?_⟩
          · rw [powCells_snoc, List.length_append]; exact hown'
          · exact (hbel.alloc hsz _).grown hgrow (by simp; omega) fun k hk => (hown.lt k hk).1
        clear hown' hgrow hown hbel HX
        go_wp2_with fail
        go_ret2
        refine ⟨_, rfl, ?_, HX2.out.2⟩
        rw [← HE.out.done (by omega)]; exact HX2.out.1
      · have hgt : ¬ (1 : Int) < (m : Int) := by omega
        have HE := Lib.hid (HI.done (by omega))
        go_wp2_with fail
        go_ret2
        refine ⟨_, rfl, ?_, HX.out.2⟩
        rw [← HE.out]; exact HX.out.1
end Go.Proofs.YtpiflllcjgpkhaaGreatDoor

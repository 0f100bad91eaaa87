import Derived.Test.YtifagnolobhhdaaDoorLawA
namespace Go.Proofs.YtifagnolobhhdaaDoor
open Go.RowKit Num

theorem Tab.drewN {w : World} (h : Tab w) (n : Nat) : Tab (w.drewN n) := h
theorem quiet_is {p : Nat} {w : World} (hp : isP p = true) (ht : Tab w) (n : Nat) :
    Calls Tryd.prog 14 #[.int .i64 p] (w.drewN n) fun e w'' => e = .returned (.bool true) ∧ ∃ m, w'' = w.drewN m :=
  (is_any p _ (ht.drewN n)).mono fun e w' ⟨h1, h2⟩ => ⟨by rw [h1, Int.toNat_natCast, hp], n, h2.symm⟩
/-- What the loop over the powers knows at place i. -/
theorem prod_at {m i p e : Nat} {L : List (Nat × Nat)} (hm : pOf L = m) (h2 : ∀ x ∈ L, 2 ≤ x.1) (hi : L[i]? = some (p, e)) :
    pOf (L.take (i + 1)) = pOf (L.take i) * p ^ e ∧ ∀ j, j ≤ e → pOf (L.take i) * p ^ j ≤ m := by
  have hil : i < L.length := (List.getElem?_eq_some_iff.1 hi).1
  have ht : L.take (i + 1) = L.take i ++ [(p, e)] := by
    rw [List.take_succ_eq_append_getElem hil]
    congr 2
    exact (List.getElem?_eq_some_iff.1 hi).2
  have e1 : pOf (L.take (i + 1)) = pOf (L.take i) * p ^ e := by rw [ht, pOf_append]; simp [pOf, nprod]
  have hle : pOf (L.take (i + 1)) ≤ m := by
    have hsplit : pOf (L.take (i + 1)) * pOf (L.drop (i + 1)) = m := by rw [← pOf_append, List.take_append_drop]; exact hm
    have q2 := pOf_pos (L := L.drop (i + 1)) fun x hx => h2 x (List.mem_of_mem_drop hx)
    have q3 := Nat.le_mul_of_pos_right (pOf (L.take (i + 1))) q2.1
    omega
  refine ⟨e1, fun j hj => ?_⟩
  refine Nat.le_trans (Nat.mul_le_mul_left _ (Nat.pow_le_pow_right ?_ hj)) (e1 ▸ hle)
  have := h2 (p, e) (List.mem_of_getElem? hi)
  simp only at this; omega

set_option maxHeartbeats 4000000 in
theorem prod_law (n : Int) (m : Nat) (w : World) (ht : Tab w) (m1 : 1 ≤ m) (m2 : m ≤ 2147483647) (hw : (n.tmod 2147483647 + 1 < 1 ∧ 2 - (n.tmod 2147483647 + 1) = (m : Int)) ∨ (¬ n.tmod 2147483647 + 1 < 1 ∧ n.tmod 2147483647 + 1 = (m : Int))) :
    Calls Tryd.prog 5 #[.int .i64 n] w fun e w' => e = .returned (.bool true) ∧ Below w.heap.size w w' := by
  have b1 := Int.lt_tmod_of_pos n (show 0 < 2147483647 by omega)
  have b2 := Int.tmod_lt_of_pos n (show 0 < 2147483647 by omega)
  have cF := factor_any m w m1 m2 ht
  have hp := pOf_pw m m1
  have hb := (pw_bd m m1).2
  have hlen := (pw_bd m m1).1
  have hpr := pw_primes m m1
  unfold FactorPost at cF
  obtain ⟨L, hL⟩ : ∃ L, pw m = L := ⟨_, rfl⟩
  rw [hL] at cF hp hb hlen hpr
  have HP := Lib.hid hp
  have HB := Lib.hid hb
  have HPR := Lib.hid hpr
  have CF := Lib.hid cF
  have HT := Lib.hid ht
  clear hL hp hb hpr cF ht
  generalize htt : n.tmod 2147483647 = t at *
  rcases hw with ⟨hw1, hw2⟩ | ⟨hw1, hw2⟩
  all_goals
    go_enter Tryd.func5, Tryd.ntmps5
    go_wp2_with fail
    refine CF.out.mono ?_
    rintro e w1 ⟨v, rfl, hown, hbel⟩
    have HRd := Lib.hid (Rd.of_owns hown)
    obtain ⟨a0, cap, rfl, hcap, hcm, hrd⟩ := Rd.of_owns hown
    have HB1 := Lib.hid hbel
    clear hrd hown hbel hcap hcm htt hw1 b1 b2
    clear hw2
    go_wp2_with fail
    go_loopg [2, 6, 7, 8, 9, 24] L.length (fun g s2 s6 s7 s8 s9 s24 wr => ∃ (i R : Nat), i + g = L.length ∧ R ≤ m ∧ s6 = .int .i64 R ∧ s24 = .int .i64 i ∧ R = pOf (L.take i) ∧ Below w1.heap.size w1 wr)
    case atStart => exact ⟨0, 1, by omega, m1, rfl, rfl, by simp [pOf, nprod], Below.refl _ _⟩
    case round =>
      obtain ⟨i, R, hig, hR, rfl, rfl, eR, hbx⟩ := hrel
      have HBX := Lib.hid hbx
      have ER := Lib.hid eR
      clear eR
      cases gk with
      | zero =>
        obtain rfl : i = L.length := by omega
        obtain rfl : R = m := by
          have h2 := ER.out
          rw [List.take_length, HP.out] at h2
          exact h2
        clear hbx
        go_wp2_with (go_at_call 16; refine (awake_any _ (HT.out.below (below_two HB1.out HBX.out))).mono ?_; rintro e w2 ⟨rfl, hb2⟩; have HB2 := Lib.hid (below_two (below_two HB1.out HBX.out) hb2); clear hb2)
        go_ret
        exact ⟨rfl, HB2.out⟩
      | succ g =>
        obtain ⟨⟨p, e⟩, hpe⟩ : ∃ x, L[i]? = some x := ⟨_, List.getElem?_eq_getElem (by omega)⟩
        obtain ⟨b, off, cap', hv, hb, hc1, hc2⟩ := (HRd.out.below hbx).pow hpe
        obtain ⟨q1, q2, q3, q4⟩ := HB.out (p, e) (List.mem_of_getElem? hpe)
        simp only at q1 q2 q3 q4
        have he30 := exp_bd q2 q4 m2
        injection hv with hv1 hv2 hv3
        subst hv1 hv3
        obtain ⟨t1, t5⟩ := prod_at HP.out (fun x hx => (HB.out x hx).2.1) hpe
        have hlt : (i : Int) < (L.length : Int) := by omega
        have hisP : isP p = true := (isP_iff p).2 ⟨(HPR.out.1 (p, e) (List.mem_of_getElem? hpe)).1, by omega⟩
        have HT2 : Hid (pOf (L.take (i + 1)) = R * p ^ e) := by show _ = _; rw [t1, ER.out]
        have HT5 : Hid (∀ j, j ≤ e → R * p ^ j ≤ m) := by intro j hj; have := t5 j hj; rwa [← ER.out] at this
        have htab : Tab (wr.alloc (.cells #[.int .i64 p, .int .i64 e] 30)) := (HT.out.below (below_two HB1.out hbx)).below ((Below.refl _ _).alloc (Nat.le_refl _) _)
        have QI := Lib.hid (fun n => quiet_is (w := wr.alloc (.cells #[.int .i64 p, .int .i64 e] 30)) hisP htab n)
        have hpast : (i ≤ 0 ∧ decide (0 < i) = false) ∨ ∃ j p' e', i = j + 1 ∧ p' < p ∧ wr.cell? ⟨b, off + j * 2, none⟩ = some (.int .i64 (p' : Nat)) ∧ wr.cell? ⟨b, off + j * 2 + 1, none⟩ = some (.int .i64 (e' : Nat)) := by
          rcases Nat.eq_zero_or_pos i with h0 | h0
          · exact .inl ⟨by omega, decide_eq_false (by omega)⟩
          · obtain ⟨j, rfl⟩ : ∃ j, i = j + 1 := ⟨i - 1, by omega⟩
            right
            obtain ⟨⟨p', e'⟩, hpe'⟩ : ∃ x, L[j]? = some x := ⟨_, List.getElem?_eq_getElem (by omega)⟩
            obtain ⟨b', off', cap'', hv', hb', hc1', hc2'⟩ := (HRd.out.below hbx).pow hpe'
            injection hv' with hv1' hv2' hv3'
            injection hv1' with hv1'
            injection hv1' with g1 g2
            subst g1 g2
            refine ⟨j, p', e', rfl, ?_, hc1', hc2'⟩
            have hpw := List.pairwise_iff_getElem.1 HPR.out.2 j (j + 1) (by omega) (by omega) (by omega)
            rw [List.getElem?_eq_getElem (by omega)] at hpe hpe'
            rw [Option.some.inj hpe, Option.some.inj hpe'] at hpw
            exact hpw
        clear hv2 hbx hpe q4 t1 t5 hisP htab
        obtain ⟨wo, rfl⟩ : ∃ wo : World, wo = wr := ⟨_, rfl⟩
        obtain ⟨go, rfl⟩ : ∃ go : Nat, go = g := ⟨_, rfl⟩
        have dz1 : decide ((e : Int) < 1) = false := by simp; omega
        have dz2 : decide ((31 : Int) < (e : Int)) = false := by simp; omega
        rcases hpast with ⟨hi0, hz⟩ | ⟨j, p', e', rfl, hpp, hd1, hd2⟩
        · go_wp2_with fail
          go_quiet ((go_at_call 14; exact QI.out _))
          go_wp2_with fail
          go_loopg [6, 9] e (fun g s6 s9 wx => ∃ (k R' : Nat), k + g = e ∧ R' ≤ m ∧ s6 = .int .i64 R' ∧ s9 = .int .i64 k ∧ wx = (wo.alloc (.cells #[.int .i64 p, .int .i64 e] 30)).drewN nq ∧ R' = R * p ^ k)
          case atStart => exact ⟨0, R, by omega, hR, rfl, rfl, rfl, by rw [Nat.pow_zero, Nat.mul_one]⟩
          case round =>
            obtain ⟨k, R', hke, hR', rfl, rfl, rfl, eR'⟩ := hrel
            have HBB := Lib.hid (below_drewN ((HBX.out).alloc HBX.out.size (.cells #[.int .i64 p, .int .i64 e] 30)) nq)
            cases gk with
            | zero =>
              obtain rfl : k = e := by omega
              have HR' : Hid (R' = pOf (L.take (i + 1))) := by rw [HT2.out]; exact eR'
              clear eR'
              go_wp2_with fail
              go_roundg go
              case measure => omega
              case rel => exact ⟨i + 1, R', by omega, by omega, rfl, by go_num, HR'.out, HBB.out⟩
            | succ k2 =>
              have hlt2 : (k : Int) < (e : Int) := by omega
              have hle2 : (R' : Int) ≤ (m : Int) := by omega
              have hR2 : R' * p = R * p ^ (k + 1) := by rw [eR', Nat.pow_succ, Nat.mul_assoc]
              have hb2 : R' * p ≤ m := by rw [hR2]; exact HT5.out (k + 1) (by omega)
              have hb3 : (R' : Int) * (p : Int) ≤ 2147483647 := castmul2_le (Nat.le_trans hb2 m2)
              have hb4 : 0 ≤ (R' : Int) * (p : Int) := Int.mul_nonneg (by omega) (by omega)
              have HR2 := Lib.hid hR2
              have HB2 := Lib.hid hb2
              clear eR' hR2 hb2
              go_wp2_with fail
              go_roundg k2
              case measure => omega
              case rel => exact ⟨k + 1, R' * p, by omega, HB2.out, by go_num, by go_num, rfl, HR2.out⟩
        · have dz3 : decide ((0 : Int) < (j : Int) + 1) = true := decide_eq_true (by omega)
          have dz4 : decide (p ≤ p') = false := decide_eq_false (by omega)
          go_wp2_with fail
          go_quiet ((go_at_call 14; exact QI.out _))
          go_wp2_with fail
          go_loopg [6, 9] e (fun g s6 s9 wx => ∃ (k R' : Nat), k + g = e ∧ R' ≤ m ∧ s6 = .int .i64 R' ∧ s9 = .int .i64 k ∧ wx = (wo.alloc (.cells #[.int .i64 p, .int .i64 e] 30)).drewN nq ∧ R' = R * p ^ k)
          case atStart => exact ⟨0, R, by omega, hR, rfl, rfl, rfl, by rw [Nat.pow_zero, Nat.mul_one]⟩
          case round =>
            obtain ⟨k, R', hke, hR', rfl, rfl, rfl, eR'⟩ := hrel
            have HBB := Lib.hid (below_drewN ((HBX.out).alloc HBX.out.size (.cells #[.int .i64 p, .int .i64 e] 30)) nq)
            cases gk with
            | zero =>
              obtain rfl : k = e := by omega
              have HR' : Hid (R' = pOf (L.take ((j + 1) + 1))) := by rw [HT2.out]; exact eR'
              clear eR'
              go_wp2_with fail
              go_roundg go
              case measure => omega
              case rel => exact ⟨(j + 1) + 1, R', by omega, by omega, rfl, by go_num, HR'.out, HBB.out⟩
            | succ k2 =>
              have hlt2 : (k : Int) < (e : Int) := by omega
              have hle2 : (R' : Int) ≤ (m : Int) := by omega
              have hR2 : R' * p = R * p ^ (k + 1) := by rw [eR', Nat.pow_succ, Nat.mul_assoc]
              have hb2 : R' * p ≤ m := by rw [hR2]; exact HT5.out (k + 1) (by omega)
              have hb3 : (R' : Int) * (p : Int) ≤ 2147483647 := castmul2_le (Nat.le_trans hb2 m2)
              have hb4 : 0 ≤ (R' : Int) * (p : Int) := Int.mul_nonneg (by omega) (by omega)
              have HR2 := Lib.hid hR2
              have HB2 := Lib.hid hb2
              clear eR' hR2 hb2
              go_wp2_with fail
              go_roundg k2
              case measure => omega
              case rel => exact ⟨k + 1, R' * p, by omega, HB2.out, by go_num, by go_num, rfl, HR2.out⟩

theorem law_PrimeProduct (n : Int) (w : World) (ht : Tab w) :
    Calls Tryd.prog 5 #[.int .i64 n] w fun e w' => e = .returned (.bool true) ∧ Below w.heap.size w w' := by
  have b1 := Int.lt_tmod_of_pos n (show 0 < 2147483647 by omega)
  have b2 := Int.tmod_lt_of_pos n (show 0 < 2147483647 by omega)
  by_cases h : n.tmod 2147483647 + 1 < 1
  · exact prod_law n (2 - (n.tmod 2147483647 + 1)).toNat w ht (by omega) (by omega) (.inl ⟨h, by omega⟩)
  · exact prod_law n (n.tmod 2147483647 + 1).toNat w ht (by omega) (by omega) (.inr ⟨h, by omega⟩)
end Go.Proofs.YtifagnolobhhdaaDoor

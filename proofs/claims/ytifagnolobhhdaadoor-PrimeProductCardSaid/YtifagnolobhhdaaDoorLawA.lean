import Derived.Test.YtifagnolobhhdaaDoorAwake
namespace Go.Proofs.YtifagnolobhhdaaDoor
open Go.RowKit Num

set_option maxHeartbeats 1000000 in
theorem same_any (L : List (Nat × Nat)) (va vb : Value) (w : World) (ha : Rd w va L.length (powCells L)) (hb : Rd w vb L.length (powCells L)) (hlen : L.length ≤ 2147483647) :
    Calls Tryd.prog 19 #[va, vb] w fun e w' => e = .returned (.bool true) ∧ Below w.heap.size w w' := by
  have HA := Lib.hid ha
  have HB := Lib.hid hb
  obtain ⟨a0, cap, rfl, hcap, hcm, hrd⟩ := ha
  obtain ⟨a1, cap1, rfl, hcap1, hcm1, hrd1⟩ := hb
  clear hrd hrd1
  go_enter Tryd.func19, Tryd.ntmps19
  go_wp2_with fail
  go_loopg [5, 13] L.length (fun g s5 s13 wr => ∃ (i : Nat), i + g = L.length ∧ s13 = .int .i64 i ∧ Below w.heap.size w wr)
  case atStart => exact ⟨0, by omega, rfl, Below.refl _ _⟩
  case round =>
    obtain ⟨i, hig, rfl, hbx⟩ := hrel
    have HBX := Lib.hid hbx
    cases gk with
    | zero =>
      obtain rfl : i = L.length := by omega
      clear hbx
      go_wp2_with fail
      go_ret
      exact ⟨rfl, HBX.out⟩
    | succ g =>
      obtain ⟨⟨p, e⟩, hpe⟩ : ∃ x, L[i]? = some x := ⟨_, List.getElem?_eq_getElem (by omega)⟩
      obtain ⟨b, off, cap', hv, hb, hc1, hc2⟩ := (HA.out.below hbx).pow hpe
      obtain ⟨b', off', cap'', hv', hb', hc1', hc2'⟩ := (HB.out.below hbx).pow hpe
      injection hv with hv1 hv2 hv3
      injection hv' with hv1' hv2' hv3'
      subst hv1 hv3 hv1' hv3'
      have hlt : (i : Int) < (L.length : Int) := by omega
      clear hv2 hv2' hbx hpe
      go_wp2_with fail
      go_quiet (fail)
      go_wp2_with fail
      go_roundg g
      case measure => omega
      case rel => exact ⟨i + 1, by omega, by go_num, below_drewN HBX.out _⟩

/-! ### The statements' walks -/
set_option maxHeartbeats 1000000 in
theorem law_PrimeIs (n : Int) (w : World) (ht : Tab w) :
    Calls Tryd.prog 3 #[.int .i64 n] w fun e w' => e = .returned (.bool true) ∧ Below w.heap.size w w' := by
  obtain ⟨b, hb⟩ : ∃ b, isP n.toNat = b := ⟨_, rfl⟩
  have C1 := Lib.hid (is_any n w ht)
  have C2 := Lib.hid (ris_any n w)
  rw [hb] at C1 C2
  have C3 := Lib.hid (awake_any w ht)
  clear hb ht
  cases b
  all_goals
    go_enter Tryd.func3, Tryd.ntmps3
    go_wp2_with (first | (go_at_call 14; refine C1.out.mono ?_; rintro e w1 ⟨rfl, rfl⟩) | (go_at_call 15; refine C2.out.mono ?_; rintro e w1 ⟨rfl, rfl⟩) | (go_at_call 16; refine C3.out.mono ?_; rintro e w1 ⟨rfl, hb⟩; have HB := Lib.hid hb; clear hb))
    go_ret
    exact ⟨rfl, HB.out⟩

set_option maxHeartbeats 1000000 in
theorem law_PrimeFactor (n : Int) (w : World) (ht : Tab w) :
    Calls Tryd.prog 4 #[.int .i64 n] w fun e w' => e = .returned (.bool true) ∧ Below w.heap.size w w' := by
  by_cases h : n < 1 ∨ 2147483647 < n
  · have C1 := Lib.hid (factor_out n w h)
    have C2 := Lib.hid (rfactor_out n w h)
    have C3 := Lib.hid (same_any [] (.slice none 0 0) (.slice none 0 0) w (Rd.nil w) (Rd.nil w) (by simp))
    have HT := Lib.hid ht
    clear h ht
    go_enter Tryd.func4, Tryd.ntmps4
    go_wp2_with (first | (go_at_call 17; refine C1.out.mono ?_; rintro e w1 ⟨rfl, rfl⟩) | (go_at_call 18; refine C2.out.mono ?_; rintro e w1 ⟨rfl, rfl⟩) | (go_at_call 19; refine C3.out.mono ?_; rintro e w1 ⟨rfl, hb⟩; have HB := Lib.hid hb; clear hb))
    refine (awake_any _ (HT.out.below HB.out)).mono ?_
    rintro e w2 ⟨rfl, hb2⟩
    have HB2 := Lib.hid (below_two HB.out hb2)
    clear hb2
    go_wp2_with fail
    go_ret
    exact ⟨rfl, HB2.out⟩
  · obtain ⟨m, rfl⟩ := Int.eq_ofNat_of_zero_le (show 0 ≤ n by omega)
    have h1 : 1 ≤ m := by omega
    have h2 : m ≤ 2147483647 := by omega
    have hlen := (pw_bd m h1).1
    have C1 := Lib.hid (factor_any m w h1 h2 ht)
    have C2 := Lib.hid (fun w => rfactor_any m w h1 h2)
    have HT := Lib.hid ht
    clear h ht
    go_enter Tryd.func4, Tryd.ntmps4
    go_wp2_with fail
    refine C1.out.mono ?_
    rintro e w1 ⟨v1, rfl, hown1, hb1⟩
    have H1 := Lib.hid (Rd.of_owns hown1)
    have HB1 := Lib.hid hb1
    clear hown1 hb1
    go_wp2_with fail
    refine (C2.out w1).mono ?_
    rintro e w2 ⟨v2, rfl, hown2, hb2⟩
    have H2 := Lib.hid (Rd.of_owns hown2)
    have H1' := Lib.hid (H1.out.below hb2)
    have HB2 := Lib.hid (below_two HB1.out hb2)
    clear hown2 hb2
    go_wp2_with fail
    refine (same_any _ _ _ _ H1'.out H2.out (by omega)).mono ?_
    rintro e w3 ⟨rfl, hb3⟩
    have HB3 := Lib.hid (below_two HB2.out hb3)
    clear hb3
    go_wp2_with fail
    refine (awake_any _ (HT.out.below HB3.out)).mono ?_
    rintro e w4 ⟨rfl, hb4⟩
    have HB4 := Lib.hid (below_two HB3.out hb4)
    clear hb4
    go_wp2_with fail
    go_ret
    exact ⟨rfl, HB4.out⟩

set_option maxHeartbeats 1000000 in
theorem law_PrimeNext (n : Int) (w : World) (ht : Tab w) :
    Calls Tryd.prog 12 #[.int .i64 n] w fun e w' => e = .returned (.bool true) ∧ Below w.heap.size w w' := by
  have C1 := Lib.hid (next_any n w ht)
  have C2 := Lib.hid (rnext_any n w)
  have C3 := Lib.hid (awake_any w ht)
  clear ht
  go_enter Tryd.func12, Tryd.ntmps12
  go_wp2_with fail
  refine C1.out.mono ?_
  rintro e w1 ⟨p, ok, rfl, hN, rfl⟩
  have HN := Lib.hid hN
  clear hN
  go_wp2_with fail
  refine C2.out.mono ?_
  rintro e w1 ⟨q, is, rfl, hM, rfl⟩
  obtain ⟨rfl, rfl⟩ := NextIs.unique HN.out hM
  clear hM HN
  cases ok
  all_goals
    go_wp2_with (go_at_call 16; refine C3.out.mono ?_; rintro e w1 ⟨rfl, hb⟩; have HB := Lib.hid hb; clear hb)
    go_ret
    exact ⟨rfl, HB.out⟩

theorem tmod_small (a n : Int) (h : 0 < n) (hn : n ≤ 2147483647) : InR (a.tmod n) := by
  have h1 := Int.lt_tmod_of_pos a h
  have h2 := Int.tmod_lt_of_pos a h
  unfold InR; omega
/-- Whatever the two symbols are, they agree. -/
theorem kron_both (a n : Int) (w : World) : ∃ k e : Int, Calls Tryd.prog 20 #[.int .i64 a, .int .i64 n] w (fun x w' => x = .returned (.tuple #[.int .i64 k, .int .i64 e]) ∧ w = w') ∧
    Calls Tryd.prog 21 #[.int .i64 a, .int .i64 n] w (fun x w' => x = .returned (.tuple #[.int .i64 k, .int .i64 e]) ∧ Below w.heap.size w w') := by
  by_cases h : InR a ∧ InR n
  · exact ⟨_, _, kron_any a n w h.1 h.2, rkron_any a n w h.1 h.2⟩
  · exact ⟨_, _, kron_out a n w h, (rkron_out a n w h).mono fun e w' ⟨h1, h2⟩ => ⟨h1, h2 ▸ Below.refl _ _⟩⟩

set_option maxHeartbeats 1000000 in
theorem law_PrimeKronecker (a n : Int) (small : Bool) (w : World) (ht : Tab w) :
    Calls Tryd.prog 6 #[.int .i64 a, .int .i64 n, .bool small] w fun e w' => e = .returned (.bool true) ∧ Below w.heap.size w w' := by
  obtain ⟨a', n', hs⟩ : ∃ a' n' : Int, (small = true ∧ a' = a.tmod 200 ∧ n' = n.tmod 200) ∨ (small = false ∧ a' = a ∧ n' = n) := by
    cases small
    · exact ⟨a, n, .inr ⟨rfl, rfl, rfl⟩⟩
    · exact ⟨_, _, .inl ⟨rfl, rfl, rfl⟩⟩
  obtain ⟨k, e, c1, c2⟩ := kron_both a' n' w
  have C1 := Lib.hid c1
  have C2 := Lib.hid c2
  have HT := Lib.hid ht
  clear c1 c2 ht
  rcases hs with ⟨rfl, rfl, rfl⟩ | ⟨rfl, rfl, rfl⟩
  all_goals
    go_enter Tryd.func6, Tryd.ntmps6
    go_wp2_with (first | (go_at_call 20; refine C1.out.mono ?_; rintro e w1 ⟨rfl, rfl⟩) | (go_at_call 21; refine C2.out.mono ?_; rintro e w1 ⟨rfl, hb⟩; have HB := Lib.hid hb; clear hb))
    refine (awake_any _ (HT.out.below HB.out)).mono ?_
    rintro e w2 ⟨rfl, hb2⟩
    have HB2 := Lib.hid (below_two HB.out hb2)
    clear hb2
    go_wp2_with fail
    go_ret
    exact ⟨rfl, HB2.out⟩

theorem sqf_both (n : Int) (w : World) (ht : Tab w) : ∃ s r e : Int, Calls Tryd.prog 26 #[.int .i64 n] w (fun x w' => x = .returned (.tuple #[.int .i64 s, .int .i64 r, .int .i64 e]) ∧ Below w.heap.size w w') ∧
    ∀ w : World, Calls Tryd.prog 27 #[.int .i64 n] w (fun x w' => x = .returned (.tuple #[.int .i64 s, .int .i64 r, .int .i64 e]) ∧ w = w') := by
  by_cases h : n = 0 ∨ ¬ InR n
  · exact ⟨_, _, _, (sqf_out n w h).mono fun e w' ⟨h1, h2⟩ => ⟨h1, h2 ▸ Below.refl _ _⟩, fun w => rsqf_out n w h⟩
  · have h1 : n ≠ 0 := fun e => h (.inl e)
    have h2 : InR n := Classical.byContradiction fun e => h (.inr e)
    exact ⟨_, _, _, sqf_any n w h1 h2 ht, fun w => rsqf_any n w h1 h2⟩

set_option maxHeartbeats 1000000 in
theorem law_PrimeSquarefree (n : Int) (small : Bool) (w : World) (ht : Tab w) :
    Calls Tryd.prog 10 #[.int .i64 n, .bool small] w fun e w' => e = .returned (.bool true) ∧ Below w.heap.size w w' := by
  obtain ⟨n', hs⟩ : ∃ n' : Int, (small = true ∧ n' = n.tmod 5000) ∨ (small = false ∧ n' = n) := by
    cases small
    · exact ⟨n, .inr ⟨rfl, rfl⟩⟩
    · exact ⟨_, .inl ⟨rfl, rfl⟩⟩
  obtain ⟨s, r, e, c1, c2⟩ := sqf_both n' w ht
  have C1 := Lib.hid c1
  have C2 := Lib.hid c2
  have HT := Lib.hid ht
  clear c1 c2 ht
  rcases hs with ⟨rfl, rfl⟩ | ⟨rfl, rfl⟩
  all_goals
    go_enter Tryd.func10, Tryd.ntmps10
    go_wp2_with (first | (go_at_call 26; refine C1.out.mono ?_; rintro e w1 ⟨rfl, hb⟩; have HB := Lib.hid hb; clear hb) | (go_at_call 27; refine (C2.out _).mono ?_; rintro e w1 ⟨rfl, rfl⟩))
    refine (awake_any _ (HT.out.below HB.out)).mono ?_
    rintro e w2 ⟨rfl, hb2⟩
    have HB2 := Lib.hid (below_two HB.out hb2)
    clear hb2
    go_wp2_with fail
    go_ret
    exact ⟨rfl, HB2.out⟩

end Go.Proofs.YtifagnolobhhdaaDoor

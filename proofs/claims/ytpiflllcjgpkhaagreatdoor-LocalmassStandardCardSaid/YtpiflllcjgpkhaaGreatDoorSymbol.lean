import Derived.Test.YtpiflllcjgpkhaaGreatDoorFactor
set_option maxRecDepth 3000
namespace Go.Proofs.YtpiflllcjgpkhaaGreatDoor
open Go.RowKit Num

theorem powCells_get : ∀ (L : List (Nat × Nat)) (i : Nat) (p e : Nat), L[i]? = some (p, e) → (powCells L)[i * 2]? = some (.int .i64 p) ∧ (powCells L)[i * 2 + 1]? = some (.int .i64 e)
  | [], i, p, e, h => by simp at h
  | x :: L, 0, p, e, h => by
    simp only [List.getElem?_cons_zero, Option.some.injEq] at h
    subst h
    simp [powCells]
  | x :: L, i + 1, p, e, h => by
    have := powCells_get L i p e (by simpa using h)
    simp only [powCells, List.flatMap_cons] at this ⊢
    rw [show (i + 1) * 2 = i * 2 + 2 by omega, show i * 2 + 2 + 1 = (i * 2 + 1) + 2 by omega]
    simpa using this
/-- The cells of element i of a list of powers that a slice holds. -/
theorem Rd.pow {w : World} {v : Value} {L : List (Nat × Nat)} (h : Rd w v L.length (powCells L)) {i p e : Nat} (hi : L[i]? = some (p, e)) :
    ∃ b off cap, v = .slice (some ⟨b, off, none⟩) L.length cap ∧ b < w.heap.size ∧ w.cell? ⟨b, off + i * 2, none⟩ = some (.int .i64 p) ∧ w.cell? ⟨b, off + i * 2 + 1, none⟩ = some (.int .i64 e) := by
  obtain ⟨h1, h2⟩ := powCells_get L i p e hi
  obtain ⟨a, cap, rfl, _, _, h3⟩ := h
  have hne : powCells L ≠ [] := fun hx => by rw [hx] at h1; simp at h1
  obtain ⟨b, off, rfl, hb, hc⟩ := h3 hne
  exact ⟨b, off, cap, rfl, hb, hc _ _ h1, by have := hc _ _ h2; rwa [← Nat.add_assoc] at this⟩

theorem lprod_replicate (k : Nat) (x : Int) : lprod (List.replicate k x) = x ^ k := by
  induction k with
  | zero => simp [lprod]
  | succ k ih => rw [List.replicate_succ, lprod, ih, Int.pow_succ, Int.mul_comm]
/-- The symbol over what is left of the list of powers. -/
def kl (a : Int) (L : List (Nat × Nat)) : Int := lprod ((spread L).map (ps a))
theorem kl_nil (a : Int) : kl a [] = 1 := rfl
theorem kl_cons (a : Int) (p e : Nat) (L : List (Nat × Nat)) : kl a ((p, e) :: L) = ps a p ^ e * kl a L := by
  unfold kl spread
  rw [List.flatMap_cons, List.map_append, lprod_append, List.map_replicate, lprod_replicate]
theorem kr_kl (a : Int) {n : Nat} (h : 1 ≤ n) : kr a n = kl a (pw n) := by
  unfold kr kl; rw [spread_pw n h]
def SInv (a : Int) (s : Int) (k : Nat) (p : Nat) (L : List (Nat × Nat)) (n : Int) : Prop := s * (ps a p ^ k * kl a L) = krZ a n
theorem SInv.step {a s : Int} {k p : Nat} {L : List (Nat × Nat)} {n : Int} (h : SInv a s (k + 1) p L n) : SInv a (s * ps a p) k p L n := by
  unfold SInv at *
  rw [Int.pow_succ, Int.mul_comm (ps a p ^ k)] at h
  rw [Int.mul_assoc, ← Int.mul_assoc (ps a p), h]
def SOut (a : Int) (s : Int) (L : List (Nat × Nat)) (n : Int) : Prop := s * kl a L = krZ a n
theorem SOut.open {a s : Int} {p e : Nat} {L : List (Nat × Nat)} {n : Int} (h : SOut a s ((p, e) :: L) n) : SInv a s e p L n := by
  unfold SOut at h; unfold SInv; rwa [kl_cons] at h
theorem SInv.close {a s : Int} {p : Nat} {L : List (Nat × Nat)} {n : Int} (h : SInv a s 0 p L n) : SOut a s L n := by
  unfold SInv at h; unfold SOut; rwa [Int.pow_zero, Int.one_mul] at h
theorem SOut.start_neg {a n : Int} (hn : n < 0) (ha : a < 0) : SOut a (-1) (pw n.natAbs) n := by
  unfold SOut krZ; rw [if_neg (by omega), if_pos ⟨hn, ha⟩, kr_kl a (by omega)]
theorem SOut.start_pos {a n : Int} (hn : n ≠ 0) (ha : ¬ (n < 0 ∧ a < 0)) : SOut a 1 (pw n.natAbs) n := by
  unfold SOut krZ; rw [if_neg hn, if_neg ha, kr_kl a (by omega)]
theorem SOut.done {a s n : Int} (h : SOut a s [] n) : krZ a n = s := by
  unfold SOut at h; rw [kl_nil, Int.mul_one] at h; exact h.symm
theorem mul_three {s t : Int} (h1 : -1 ≤ s) (h2 : s ≤ 1) (h3 : t = 0 ∨ t = 1 ∨ t = -1) : -1 ≤ s * t ∧ s * t ≤ 1 := by
  rcases h3 with h | h | h <;> rw [h] <;> omega
theorem ps_two' (a : Int) : ps a 2 = two a := if_pos rfl
theorem ps_odd {a : Int} {p : Nat} (h : p ≠ 2) : ps a p = legZ a p := if_neg h

set_option maxHeartbeats 1000000 in
theorem symbol_any (a n : Int) (w : World) (hn : InR n) :
    Calls Tryz.prog 46 #[.int .i64 a, .int .i64 n] w fun e w' => e = .returned (.int .i64 (krZ a n)) ∧ Below w.heap.size w w' := by
  unfold InR at hn
  obtain ⟨n1, n2⟩ := hn
  by_cases h0 : n = 0
  · subst h0
    by_cases e1 : a = 1
    · subst e1
      have H := Lib.hid (krZ_zero_one (a := 1) (.inl rfl))
      go_enter Tryz.func46, Tryz.ntmps46
      go_wp2_with fail
      go_ret
      exact ⟨by rw [H.out]; rfl, Below.refl _ _⟩
    · by_cases e2 : a = -1
      · subst e2
        have H := Lib.hid (krZ_zero_one (a := -1) (.inr rfl))
        go_enter Tryz.func46, Tryz.ntmps46
        go_wp2_with fail
        go_ret
        exact ⟨by rw [H.out]; rfl, Below.refl _ _⟩
      · have H := Lib.hid (krZ_zero_zero (a := a) (by omega))
        have b1 : (a == 1) = false := by rw [beq_eq_false_iff_ne]; exact e1
        have b2 : (a == -1) = false := by rw [beq_eq_false_iff_ne]; exact e2
        clear e1 e2
        go_enter Tryz.func46, Tryz.ntmps46
        go_wp2_with fail
        go_ret
        exact ⟨by rw [H.out]; rfl, Below.refl _ _⟩
  · have b0 : (n == 0) = false := by rw [beq_eq_false_iff_ne]; exact h0
    have hsg : ∃ (m : Nat) (s : Int), 1 ≤ m ∧ m ≤ 2147483647 ∧ -1 ≤ s ∧ s ≤ 1 ∧ SOut a s (pw m) n ∧ (n < 0 → (m : Int) = -n) ∧ (0 ≤ n → (m : Int) = n) ∧ (n < 0 → a < 0 → s = -1) ∧ (¬ (n < 0 ∧ a < 0) → s = 1) := by
      by_cases hc : n < 0 ∧ a < 0
      · exact ⟨n.natAbs, -1, by omega, by omega, by omega, by omega, SOut.start_neg hc.1 hc.2, by omega, by omega, by omega, fun h => absurd hc h⟩
      · exact ⟨n.natAbs, 1, by omega, by omega, by omega, by omega, SOut.start_pos h0 hc, by omega, by omega, by omega, fun _ => rfl⟩
    obtain ⟨m, s, m1, m2, s1, s2, HK, em, ep, es, es'⟩ := hsg
    have cF := rfactor_any m w m1 m2
    have HB := Lib.hid (pw_bd m m1).2
    have hlen := (pw_bd m m1).1
    obtain ⟨L, hL⟩ : ∃ L, pw m = L := ⟨_, rfl⟩
    unfold FactorPost at cF
    rw [hL] at HK HB hlen cF
    have CF := Lib.hid cF
    have EM := Lib.hid (show (n < 0 → (m : Int) = -n) ∧ (0 ≤ n → (m : Int) = n) ∧ (n < 0 → a < 0 → s = -1) ∧ (¬ (n < 0 ∧ a < 0) → s = 1) from ⟨em, ep, es, es'⟩)
    clear em ep es es' hL cF
    have hways : (n < 0 ∧ a < 0) ∨ (n < 0 ∧ ¬ a < 0) ∨ ¬ n < 0 := by omega
    have HWAYS : ∃ c : Int, c = (m : Int) ∧ ((n < 0 ∧ a < 0 ∧ c = -n ∧ s = -1) ∨ (n < 0 ∧ ¬ a < 0 ∧ c = -n ∧ s = 1) ∨ (¬ n < 0 ∧ c = n ∧ s = 1)) := by
      obtain ⟨em, ep, es, es'⟩ := EM.out
      refine ⟨m, rfl, ?_⟩
      rcases hways with h | h | h
      · exact .inl ⟨h.1, h.2, em h.1, es h.1 h.2⟩
      · exact .inr (.inl ⟨h.1, h.2, em h.1, es' (by omega)⟩)
      · exact .inr (.inr ⟨h, ep (by omega), es' (by omega)⟩)
    obtain ⟨c, hcm, hways⟩ := HWAYS
    rw [← hcm] at CF
    clear EM hcm
    rcases hways with ⟨hn0, ha0, hc, rfl⟩ | ⟨hn0, ha0, hc, rfl⟩ | ⟨hn0, hc, rfl⟩
    all_goals
      rw [hc] at CF
      clear hc
      go_enter Tryz.func46, Tryz.ntmps46
      go_wp2_with (go_at_call 72; refine CF.out.mono ?_; rintro e w1 ⟨v, rfl, hown, hbel⟩; have HRd := Lib.hid (Rd.of_owns hown); obtain ⟨a0, cap, rfl, hcap, hcm, hrd⟩ := Rd.of_owns hown; have HB1 := Lib.hid hbel; clear hrd hown hbel hcap hcm)
      go_loopg [5, 9, 10, 32] L.length (fun g s5 s9 s10 s32 wr => ∃ (i : Nat) (s : Int), i + g = L.length ∧ -1 ≤ s ∧ s ≤ 1 ∧ s5 = .int .i64 s ∧ s32 = .int .i64 i ∧ SOut a s (L.drop i) n ∧ Below w1.heap.size w1 wr)
      case atStart => exact ⟨0, _, by omega, s1, s2, rfl, rfl, HK, Below.refl _ _⟩
      case round =>
        clear HK s1 s2
        obtain ⟨i, s, hig, s1, s2, rfl, rfl, HK, hbx⟩ := hrel
        have HBX := Lib.hid hbx
        cases gk with
        | zero =>
          obtain rfl : i = L.length := by omega
          have HE : Hid (krZ a n = s) := by rw [List.drop_length] at HK; exact HK.done
          clear hbx HK
          go_wp2_with fail
          go_ret
          exact ⟨ret_int HE.out.symm, below_two HB1.out HBX.out⟩
        | succ g =>
          obtain ⟨⟨p, e⟩, hpe⟩ : ∃ x, L[i]? = some x := ⟨_, List.getElem?_eq_getElem (by omega)⟩
          have hdrop : L.drop i = (p, e) :: L.drop (i + 1) := by
            rw [List.drop_eq_getElem_cons (by omega)]
            congr 1
            have := List.getElem?_eq_getElem (l := L) (i := i) (by omega)
            rw [hpe] at this
            exact (Option.some.inj this).symm
          obtain ⟨b, off, cap', hv, hb, hc1, hc2⟩ := (HRd.out.below hbx).pow hpe
          obtain ⟨q1, q2, q3, q4⟩ := HB.out (p, e) (List.mem_of_getElem? hpe)
          simp only at q1 q2 q3 q4
          have he30 := exp_bd q2 q4 m2
          injection hv with hv1 hv2 hv3
          subst hv1 hv3
          rw [hdrop] at HK
          have HK2 := Lib.hid HK.open
          have hlt : (i : Int) < (L.length : Int) := by omega
          clear hv2 hbx HK hdrop hpe q3 q4
          obtain ⟨wo, rfl⟩ : ∃ wo : World, wo = wr := ⟨_, rfl⟩
          obtain ⟨go, rfl⟩ : ∃ go : Nat, go = g := ⟨_, rfl⟩
          go_wp2_with fail
          go_loopg [5, 10] e (fun g s5 s10 wx => ∃ (j : Nat) (s : Int), j + g = e ∧ -1 ≤ s ∧ s ≤ 1 ∧ s5 = .int .i64 s ∧ s10 = .int .i64 j ∧ wx = wo.alloc (.cells #[.int .i64 p, .int .i64 e] 105) ∧ SInv a s g p (L.drop (i + 1)) n)
          case atStart => exact ⟨0, s, by omega, s1, s2, rfl, rfl, rfl, HK2.out⟩
          case round =>
            clear HK2 s1 s2
            obtain ⟨j, s, hje, s1, s2, rfl, rfl, rfl, HK⟩ := hrel
            cases gk with
            | zero =>
              obtain rfl : j = e := by omega
              have HE := Lib.hid HK.close
              clear HK
              go_wp2_with fail
              go_roundg go
              case measure => omega
              case rel => exact ⟨i + 1, s, by omega, s1, s2, rfl, by go_num, HE.out, HBX.out.alloc HBX.out.size _⟩
            | succ k =>
              have hjlt : (j : Int) < (e : Int) := by omega
              have HE := Lib.hid HK.step
              have pb := mul_three s1 s2 (ps_three a p)
              obtain ⟨pb1, pb2⟩ := pb
              clear HK
              by_cases hp2 : p = 2
              · subst hp2
                rw [ps_two'] at HE pb1 pb2
                go_wp2_with (go_at_call 73; refine (two_any _ _).mono ?_; rintro e' w' ⟨rfl, rfl⟩)
                go_roundg k
                case measure => omega
                case rel => exact ⟨j + 1, s * two a, by omega, pb1, pb2, rfl, by go_num, rfl, HE.out⟩
              · have hbp : ((p : Int) == 2) = false := by rw [beq_eq_false_iff_ne]; omega
                rw [ps_odd hp2] at HE pb1 pb2
                clear hp2
                go_wp2_with (go_at_call 74; refine (legendre_any _ _ _ (by omega) (by omega)).mono ?_; rintro e' w' ⟨rfl, rfl⟩)
                go_roundg k
                case measure => omega
                case rel => exact ⟨j + 1, s * legZ a p, by omega, pb1, pb2, rfl, by go_num, rfl, HE.out⟩
end Go.Proofs.YtpiflllcjgpkhaaGreatDoor

import Derived.Test.YtpiflllcjgpkhaaGreatDoorSymbol
import Derived.Test.YtpiflllcjgpkhaaGreatDoorSqf
set_option maxRecDepth 3000
namespace Go.Proofs.YtpiflllcjgpkhaaGreatDoor
open Go.RowKit Num

theorem pOf_pos {L : List (Nat × Nat)} (h : ∀ x ∈ L, 2 ≤ x.1) : 1 ≤ pOf L ∧ 1 ≤ sOf L ∧ 1 ≤ rOf L := by
  induction L with
  | nil => simp [pOf, sOf, rOf, nprod]
  | cons x l ih =>
    obtain ⟨i1, i2, i3⟩ := ih fun y hy => h y (by simp [hy])
    have hx := h x (by simp)
    simp only [pOf, sOf, rOf, List.map_cons, nprod] at *
    refine ⟨Nat.mul_pos (pow_pos' hx _) i1, Nat.mul_pos ?_ i2, Nat.mul_pos (pow_pos' hx _) i3⟩
    split <;> omega
/-- What the loop over the powers knows at place i. -/
theorem sq_at {m i p e : Nat} {L : List (Nat × Nat)} (hm : pOf L = m) (h2 : ∀ x ∈ L, 2 ≤ x.1) (hi : L[i]? = some (p, e)) :
    sOf (L.take (i + 1)) = sOf (L.take i) * (if e % 2 = 1 then p else 1) ∧ rOf (L.take (i + 1)) = rOf (L.take i) * p ^ (e / 2) ∧ sOf (L.take (i + 1)) ≤ m ∧ rOf (L.take (i + 1)) ≤ m ∧
    ∀ j, j ≤ e / 2 → rOf (L.take i) * p ^ j ≤ m := by
  have hil : i < L.length := (List.getElem?_eq_some_iff.1 hi).1
  have ht : L.take (i + 1) = L.take i ++ [(p, e)] := by
    rw [List.take_succ_eq_append_getElem hil]
    congr 2
    exact (List.getElem?_eq_some_iff.1 hi).2
  have e1 : sOf (L.take (i + 1)) = sOf (L.take i) * (if e % 2 = 1 then p else 1) := by rw [ht, sOf_append]; simp [sOf, nprod]
  have e2 : rOf (L.take (i + 1)) = rOf (L.take i) * p ^ (e / 2) := by rw [ht, rOf_append]; simp [rOf, nprod]
  have hle : sOf (L.take (i + 1)) ≤ m ∧ rOf (L.take (i + 1)) ≤ m := by
    have hsplit : pOf (L.take (i + 1)) * pOf (L.drop (i + 1)) = m := by rw [← pOf_append, List.take_append_drop]; exact hm
    have q1 := pOf_pos (L := L.take (i + 1)) fun x hx => h2 x (List.mem_of_mem_take hx)
    have q2 := pOf_pos (L := L.drop (i + 1)) fun x hx => h2 x (List.mem_of_mem_drop hx)
    have q3 := Nat.le_mul_of_pos_right (pOf (L.take (i + 1))) q2.1
    have q4 := pOf_sr (L.take (i + 1))
    have q5 := Nat.le_mul_of_pos_right (sOf (L.take (i + 1))) (Nat.mul_pos q1.2.2 q1.2.2)
    have q6 := Nat.le_mul_of_pos_left (rOf (L.take (i + 1)) * rOf (L.take (i + 1))) q1.2.1
    have q7 := Nat.le_mul_of_pos_left (rOf (L.take (i + 1))) q1.2.2
    omega
  refine ⟨e1, e2, hle.1, hle.2, fun j hj => ?_⟩
  refine Nat.le_trans (Nat.mul_le_mul_left _ (Nat.pow_le_pow_right ?_ hj)) (e2 ▸ hle.2)
  have := h2 (p, e) (List.mem_of_getElem? hi)
  simp only at this; omega

def sgn (n : Int) : Int := if n < 0 then -1 else 1
theorem sgn_cases (n : Int) : sgn n = 1 ∨ sgn n = -1 := by unfold sgn; split <;> simp
set_option maxHeartbeats 1000000 in
theorem sqf_any (n : Int) (w : World) (h0 : n ≠ 0) (hn : InR n) (ht : Tab w) :
    Calls Tryz.prog 40 #[.int .i64 n] w fun e w' => e = .returned (.tuple #[.int .i64 (sfS n), .int .i64 (sfR n), .int .i64 0]) ∧ Below w.heap.size w w' := by
  unfold InR at hn
  obtain ⟨n1, n2⟩ := hn
  have b0 : (n == 0) = false := by rw [beq_eq_false_iff_ne]; exact h0
  obtain ⟨m, hm⟩ : ∃ m : Nat, n.natAbs = m := ⟨_, rfl⟩
  have m1 : 1 ≤ m := by omega
  have m2 : m ≤ 2147483647 := by omega
  have cF := factor_any m w m1 m2 ht
  have hp := pOf_pw m m1
  have hb := (pw_bd m m1).2
  have hlen := (pw_bd m m1).1
  have HS : Hid (sfS n = sgn n * (sOf (pw m) : Nat) ∧ sfR n = rOf (pw m)) := by
    refine ⟨?_, ?_⟩
    · unfold sfS sgn; rw [hm]
    · unfold sfR; rw [hm]
  unfold FactorPost at cF
  obtain ⟨L, hL⟩ : ∃ L, pw m = L := ⟨_, rfl⟩
  rw [hL] at cF hp hb HS hlen
  have HP := Lib.hid hp
  have HB := Lib.hid hb
  have CF := Lib.hid cF
  have hways : ∃ c s : Int, c = (m : Int) ∧ s = sgn n ∧ ((n < 0 ∧ c = -n ∧ s = -1) ∨ (¬ n < 0 ∧ c = n ∧ s = 1)) := by
    by_cases h : n < 0
    · exact ⟨m, -1, rfl, by rw [sgn, if_pos h], .inl ⟨h, by omega, rfl⟩⟩
    · exact ⟨m, 1, rfl, by rw [sgn, if_neg h], .inr ⟨h, by omega, rfl⟩⟩
  obtain ⟨c, s, hcm, hs, hways⟩ := hways
  rw [← hcm] at CF
  have HSG := Lib.hid hs
  clear hcm hs hL hp hb cF hm
  rcases hways with ⟨hn0, hc, rfl⟩ | ⟨hn0, hc, rfl⟩
  all_goals
    rw [hc] at CF
    clear hc
    go_enter Tryz.func40, Tryz.ntmps40
    go_wp2_with (go_at_call 66; refine CF.out.mono ?_; rintro e w1 ⟨v, rfl, hown, hbel⟩; have HRd := Lib.hid (Rd.of_owns hown); obtain ⟨a0, cap, rfl, hcap, hcm, hrd⟩ := Rd.of_owns hown; have HB1 := Lib.hid hbel; clear hrd hown hbel hcap hcm)
    go_loopg [5, 6, 10, 32] L.length (fun g s5 s6 s10 s32 wr => ∃ (i R : Nat) (S : Int), i + g = L.length ∧ S.natAbs ≤ m ∧ R ≤ m ∧ s5 = .int .i64 S ∧ s6 = .int .i64 R ∧ s32 = .int .i64 i ∧ S = sgn n * (sOf (L.take i) : Nat) ∧ R = rOf (L.take i) ∧ Below w1.heap.size w1 wr)
    case atStart => exact ⟨0, 1, _, by omega, by omega, m1, rfl, rfl, rfl, by rw [← HSG.out]; simp [sOf, nprod], by simp [rOf, nprod], Below.refl _ _⟩
    case round =>
      obtain ⟨i, R, S, hig, hS, hR, rfl, rfl, rfl, eS, eR, hbx⟩ := hrel
      have HBX := Lib.hid hbx
      have ES := Lib.hid eS
      have ER := Lib.hid eR
      clear eS eR
      cases gk with
      | zero =>
        obtain rfl : i = L.length := by omega
        have HE : Hid (sfS n = S ∧ sfR n = R) := by
          have h1 := ES.out
          have h2 := ER.out
          rw [List.take_length] at h1 h2
          exact ⟨HS.out.1.trans h1.symm, HS.out.2.trans h2.symm⟩
        clear hbx
        go_wp2_with fail
        go_ret3
        exact ⟨by rw [HE.out.1, HE.out.2]; rfl, below_two HB1.out HBX.out⟩
      | succ g =>
        obtain ⟨⟨p, e⟩, hpe⟩ : ∃ x, L[i]? = some x := ⟨_, List.getElem?_eq_getElem (by omega)⟩
        obtain ⟨b, off, cap', hv, hb, hc1, hc2⟩ := (HRd.out.below hbx).pow hpe
        obtain ⟨q1, q2, q3, q4⟩ := HB.out (p, e) (List.mem_of_getElem? hpe)
        simp only at q1 q2 q3 q4
        have he30 := exp_bd q2 q4 m2
        injection hv with hv1 hv2 hv3
        subst hv1 hv3
        obtain ⟨t1, t2, t3, t4, t5⟩ := sq_at HP.out (fun x hx => (HB.out x hx).2.1) hpe
        have hlt : (i : Int) < (L.length : Int) := by omega
        obtain ⟨S', hS'⟩ : ∃ S' : Int, S' = sgn n * (sOf (L.take (i + 1)) : Nat) := ⟨_, rfl⟩
        have hS'b : S'.natAbs ≤ m := by rw [hS']; rcases sgn_cases n with h | h <;> rw [h] <;> omega
        have HT := Lib.hid (show S' = S * (if e % 2 = 1 then (p : Int) else 1) by
          rw [hS', t1, ES.out, Int.natCast_mul, ← Int.mul_assoc]; split <;> rfl)
        have HT2 : Hid (rOf (L.take (i + 1)) = R * p ^ (e / 2)) := by show _ = _; rw [t2, ER.out]
        have HT5 : Hid (∀ j, j ≤ e / 2 → R * p ^ j ≤ m) := by intro j hj; have := t5 j hj; rwa [← ER.out] at this
        have HS' := Lib.hid hS'
        have HT4 := Lib.hid t4
        clear hv2 hbx hpe q3 q4 t1 t2 t3 t4 t5 hS'
        obtain ⟨wo, rfl⟩ : ∃ wo : World, wo = wr := ⟨_, rfl⟩
        obtain ⟨go, rfl⟩ : ∃ go : Nat, go = g := ⟨_, rfl⟩
        have hodd : (((e : Int) % 2 == 1) = true ∧ S' = S * (p : Int)) ∨ (((e : Int) % 2 == 1) = false ∧ S' = S) := by
          rcases Nat.mod_two_eq_zero_or_one e with h | h
          · right; exact ⟨by rw [beq_eq_false_iff_ne]; omega, by have := HT.out; rwa [if_neg (by omega), Int.mul_one] at this⟩
          · left; exact ⟨by rw [beq_iff_eq]; omega, by have := HT.out; rwa [if_pos h] at this⟩
        rcases hodd with ⟨ho, hs'⟩ | ⟨ho, hs'⟩
        all_goals
          have hsb : -2147483647 ≤ S' ∧ S' ≤ 2147483647 := by omega
          rw [hs'] at hsb HS' hS'b
          clear hs' HT
          obtain ⟨hsb1, hsb2⟩ := hsb
          go_wp2_with fail
          go_loopg [6, 47] (e / 2) (fun g s6 s47 wx => ∃ (j R' : Nat), j + g = e / 2 ∧ R' ≤ m ∧ s6 = .int .i64 R' ∧ s47 = .int .i64 j ∧ wx = wo.alloc (.cells #[.int .i64 p, .int .i64 e] 105) ∧ R' = R * p ^ j)
          case atStart => exact ⟨0, R, by omega, hR, rfl, rfl, rfl, by rw [Nat.pow_zero, Nat.mul_one]⟩
          case round =>
            obtain ⟨j, R', hje, hR', rfl, rfl, rfl, eR'⟩ := hrel
            cases gk with
            | zero =>
              have hge : ¬ (j : Int) < (e : Int) / 2 := by omega
              have HR' : Hid (R' = rOf (L.take (i + 1))) := by rw [HT2.out, show e / 2 = j by omega]; exact eR'
              clear eR'
              go_wp2_with fail
              go_roundg go
              case measure => omega
              case rel => exact ⟨i + 1, R', _, by omega, hS'b, by omega, rfl, rfl, by go_num, HS'.out, HR'.out, HBX.out.alloc HBX.out.size _⟩
            | succ k =>
              have hlt2 : (j : Int) < (e : Int) / 2 := by omega
              have hR2 : R' * p = R * p ^ (j + 1) := by rw [eR', Nat.pow_succ, Nat.mul_assoc]
              have hb2 : R' * p ≤ m := by rw [hR2]; exact HT5.out (j + 1) (by omega)
              have hb3 : (R' : Int) * (p : Int) ≤ 2147483647 := castmul2_le (Nat.le_trans hb2 m2)
              have hb4 : 0 ≤ (R' : Int) * (p : Int) := Int.mul_nonneg (by omega) (by omega)
              have HR2 := Lib.hid hR2
              have HB2 := Lib.hid hb2
              clear eR' hR2 hb2
              go_wp2_with fail
              go_roundg k
              case measure => omega
              case rel => exact ⟨j + 1, R' * p, by omega, HB2.out, by go_num, by go_num, rfl, HR2.out⟩

/-- What the reference's loops keep. -/
def QInv (n x : Int) (r d : Nat) : Prop := n = x * (r * r : Nat) ∧ n ≠ 0 ∧ ∀ t, 2 ≤ t → t < d → ¬ t * t ∣ x.natAbs
theorem QInv.pos {n x : Int} {r d : Nat} (h : QInv n x r d) : 1 ≤ r ∧ x ≠ 0 ∧ x.natAbs ≤ n.natAbs ∧ r ≤ n.natAbs := by
  obtain ⟨h1, h2, _⟩ := h
  have hr : 1 ≤ r := by
    rcases Nat.eq_zero_or_pos r with h0 | h0
    · subst h0; simp at h1; exact absurd h1 h2
    · exact h0
  have hx : x ≠ 0 := by rintro rfl; simp at h1; exact h2 h1
  have e : n.natAbs = x.natAbs * (r * r) := by rw [h1, Int.natAbs_mul]; rfl
  have p1 := Nat.le_mul_of_pos_right x.natAbs (Nat.mul_pos hr hr)
  have p2 := Nat.le_mul_of_pos_left (r * r) (show 0 < x.natAbs by omega)
  have p3 := Nat.le_mul_of_pos_left r hr
  exact ⟨hr, hx, by omega, by omega⟩
theorem QInv.fin {n x : Int} {r d : Nat} (h : QInv n x r d) (hd : x.natAbs < d * d) : sfS n = x ∧ sfR n = r := by
  have hx := h.pos.2.1
  refine (sf_ok n h.2.1).unique ⟨h.1, h.2.1, fun t ht => ?_⟩
  rcases Nat.lt_or_ge t 2 with h2 | h2
  · rcases Nat.eq_zero_or_pos t with h0 | h0
    · subst h0
      simp at ht
      exact absurd ht hx
    · omega
  · rcases Nat.lt_or_ge t d with h3 | h3
    · exact absurd ht (h.2.2 t h2 h3)
    · have := Nat.le_of_dvd (by omega) ht
      have := Nat.mul_le_mul h3 h3
      omega
theorem QInv.next {n x : Int} {r d : Nat} (h : QInv n x r d) (hd : ¬ d * d ∣ x.natAbs) : QInv n x r (d + 1) :=
  ⟨h.1, h.2.1, fun t h2 h3 => by
    by_cases e : t = d
    · subst e; exact hd
    · exact h.2.2 t h2 (by omega)⟩
end Go.Proofs.YtpiflllcjgpkhaaGreatDoor

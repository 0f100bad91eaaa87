import Derived.Test.YtpiflllcjgpkhaaGreatDoorKron
import Derived.Test.YtpiflllcjgpkhaaGreatDoorPow
import Derived.Test.YtpiflllcjgpkhaaGreatDoorMem
set_option maxRecDepth 3000
namespace Go.Proofs.YtpiflllcjgpkhaaGreatDoor
open Go.RowKit Num

/-- The cells of a list of powers. -/
def powCells (L : List (Nat × Nat)) : List Value := L.flatMap fun x => [.int .i64 (x.1 : Nat), .int .i64 (x.2 : Nat)]
theorem powCells_snoc (L : List (Nat × Nat)) (p e : Nat) : powCells (L ++ [(p, e)]) = powCells L ++ [.int .i64 p, .int .i64 e] := by
  simp [powCells]
theorem Tab.below {w w' : World} (h : Tab w) (hb : Below w.heap.size w w') : Tab w' := by
  obtain ⟨tt, fr, h⟩ := h
  refine ⟨tt, fr, ?_⟩
  rw [hb.block _ ?_]; exact h
  exact (Array.getElem?_eq_some_iff.1 h).1
theorem infoPow : (Tryz.prog.info? 105).map (fun i => (i.zero, i.size, i.bytes)) = some (some (.agg #[.int .i64 0, .int .i64 0]), 2, 16) := by kernel_rfl

/-- What Factor hands back. -/
def FactorPost (N : Nat) (w : World) (e : Ending) (w' : World) : Prop :=
  ∃ v, e = .returned (.tuple #[v, .int .i64 0]) ∧ w'.ownsRow w.heap.size 105 2 v (pw N).length (powCells (pw N)) ∧ Below w.heap.size w w'

set_option maxHeartbeats 1000000 in
theorem factor_any (N : Nat) (w : World) (h1 : 1 ≤ N) (h2 : N ≤ 2147483647) (ht : Tab w) :
    Calls Tryz.prog 66 #[.int .i64 N] w (FactorPost N w) := by
  obtain ⟨i0, hi, hx⟩ := Option.map_eq_some_iff.1 infoPow
  simp only [Prod.mk.injEq] at hx
  obtain ⟨hz0, hz1, hz2⟩ := hx
  go_enter Tryz.func66, Tryz.ntmps66
  go_wp2_with fail
  go_loopg [0, 4, 5] N (fun g s0 s4 s5 wr => ∃ (m : Nat) (L : List (Nat × Nat)), m ≤ g ∧ m ≤ N ∧ s0 = .int .i64 m ∧ FInv L m N ∧ wr.ownsRow w.heap.size 105 2 s4 L.length (powCells L) ∧ Below w.heap.size w wr)
  case atStart => exact ⟨N, [], by omega, by omega, rfl, FInv.start N h1, World.ownsRow_nil _ _ _ _, Below.refl _ _⟩
  case round =>
    obtain ⟨m, L, hmg, hmN, rfl, HI, hown, hbel⟩ := hrel
    by_cases hm : 2 ≤ m
    · have htr := ht.below hbel
      have hl2 := (lf_spec m hm).1
      have hlm := lf_le m hm
      obtain ⟨p, hp⟩ : ∃ p, lf m = p := ⟨_, rfl⟩
      have cL := least_any m wr hm (by omega) htr
      rw [hp] at cL hl2 hlm
      have CL := Lib.hid cL
      clear cL
      have hgt : (1 : Int) < (m : Int) := by omega
      have HP := Lib.hid hp
      have HX := Lib.hid (show wr.ownsRow w.heap.size 105 2 u4 L.length (powCells L) ∧ Below w.heap.size w wr from ⟨hown, hbel⟩)
      clear hp hown hbel htr ht
      obtain ⟨wo, rfl⟩ : ∃ wo : World, wo = wr := ⟨_, rfl⟩
      obtain ⟨go, rfl⟩ : ∃ go : Nat, go = gk := ⟨_, rfl⟩
      go_wp2_with (go_at_call 64; refine CL.out.mono ?_; rintro e w' ⟨rfl, rfl⟩)
      go_loopg [0] m (fun g s0 wx => ∃ r e : Nat, r ≤ g ∧ 1 ≤ r ∧ r ≤ m ∧ e ≤ 31 ∧ s0 = .int .i64 r ∧ wx = wo.alloc (.cells #[.int .i64 p, .int .i64 e] 105) ∧ m = r * p ^ e)
      case atStart => exact ⟨m, 0, by omega, by omega, by omega, by omega, rfl, rfl, by rw [Nat.pow_zero, Nat.mul_one]⟩
      case round =>
        obtain ⟨r, e, hrg, hr1, hrm, he31, rfl, rfl, hme⟩ := hrel
        by_cases hd : r % p = 0
        · have hb : ((r : Int) % (p : Int) == 0) = true := by rw [beq_iff_eq]; omega
          have hdiv := Nat.mul_div_cancel' (Nat.dvd_of_mod_eq_zero hd)
          have hq1 : 1 ≤ r / p := by
            rcases Nat.eq_zero_or_pos (r / p) with h0 | h0
            · rw [h0] at hdiv; omega
            · exact h0
          have hqlt : r / p < r := Nat.div_lt_self (by omega) (by omega)
          have HE : Hid (m = (r / p) * p ^ (e + 1)) := by
            show m = (r / p) * p ^ (e + 1)
            rw [Nat.pow_succ, Nat.mul_comm (p ^ e), ← Nat.mul_assoc, Nat.mul_comm (r / p), hdiv]; exact hme
          have he30 : e + 1 ≤ 31 := by
            have h3 := HE.out
            have : p ^ (e + 1) ≤ m := by
              have := Nat.mul_le_mul_right (p ^ (e + 1)) hq1
              omega
            have := exp_bd hl2 this (by omega)
            omega
          clear hd hdiv hme
          go_wp2
          go_roundg (r / p)
          case measure => omega
          case rel => exact ⟨r / p, e + 1, by omega, by omega, by omega, by omega, by go_num, by go_num, HE.out⟩
        · have hb : ((r : Int) % (p : Int) == 0) = false := by rw [beq_eq_false_iff_ne]; omega
          have HE := Lib.hid (show FInv (L ++ [(p, e)]) r N by
            have := HI.step hm (r := r) (e := e) (by rw [HP.out]; exact hme) (by rw [HP.out]; exact fun h => hd (Nat.mod_eq_zero_of_dvd h))
            rwa [HP.out] at this)
          have hlt : r < m := by
            have := (rest_lt hm (r := r) (e := e) (by rw [HP.out]; exact hme) (by rw [HP.out]; exact fun h => hd (Nat.mod_eq_zero_of_dvd h))).1
            exact this
          have hlen := HI.len h2
          have hlen2 := HE.out.len h2
          clear hd hme
          obtain ⟨hown, hbel⟩ := HX.out
          have hsz := hbel.size
          go_wp2_with (at_builtin; refine wpList_append_own _ rfl _ _ 101 rfl w.heap.size 105 i0 (.agg #[.int .i64 0, .int .i64 0]) 2 16 Tryz.underlying101 hi hz0 hz1 hz2 rfl (by decide) _ _ _ rfl ((hown.alloc _).alloc _) ⟨wo.heap.size + 1, 0, none⟩ 1 1 [.int .i64 p, .int .i64 e] rfl rfl ?c1 ?c2 ?c3 ?c4 ?c5 ?_)
          case c1 => exact cells_new _ _ (by simp) [.int .i64 p, .int .i64 e] _
          case c2 => exact one_ints _ (by simp)
          case c3 => unfold maxLen; omega
          case c4 => omega
          case c5 => simp; omega
          intro v' w1 hown' hgrow _
          have HX2 : Hid (w1.ownsRow w.heap.size 105 2 v' (L ++ [(p, e)]).length (powCells (L ++ [(p, e)])) ∧ Below w.heap.size w w1) := by
            refine ⟨?_, ?_⟩
            · rw [powCells_snoc, List.length_append]; exact hown'
            · exact ((hbel.alloc hsz _).alloc (by simp; omega) _).grown hgrow (by simp; omega) fun k hk => (hown.lt k hk).1
          clear hown' hgrow hown hbel HX
          go_wp2
          go_roundg r
          case measure => omega
          case rel => exact ⟨r, L ++ [(p, e)], by omega, by omega, rfl, HE.out, HX2.out.1, HX2.out.2⟩
    · have hgt : ¬ (1 : Int) < (m : Int) := by omega
      have HE := Lib.hid (HI.done (by omega))
      have HX := Lib.hid (show wr.ownsRow w.heap.size 105 2 u4 L.length (powCells L) ∧ Below w.heap.size w wr from ⟨hown, hbel⟩)
      clear hown hbel
      go_wp2
      go_ret2
      refine ⟨_, rfl, ?_, HX.out.2⟩
      rw [← HE.out]; exact HX.out.1

end Go.Proofs.YtpiflllcjgpkhaaGreatDoor

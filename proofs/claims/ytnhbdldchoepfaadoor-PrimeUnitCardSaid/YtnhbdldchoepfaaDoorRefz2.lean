import Derived.Test.YtnhbdldchoepfaaDoorRefz
import Derived.Test.YtnhbdldchoepfaaDoorLimb2
namespace Go.Proofs.YtnhbdldchoepfaaDoor
open Go.RowKit Limb

set_option maxHeartbeats 1000000 in
theorem zsign_any (s : Bool) (a : Option Addr) (n cap : Nat) (z : Int) (k : Nat) (w : World) (h : IsZ w s a n cap z k) (hk : k ≤ 1099511627776) :
    Calls Tryd.prog 36 #[.agg #[.bool s, .slice a n cap]] w fun e w' => e = .returned (.int .i64 (sg3 z)) ∧ Below w.heap.size w w' := by
  have hb0 := (Below.refl w.heap.size w).alloc (Nat.le_refl _) (.cells #[.bool s, .slice a n cap] 24)
  obtain ⟨l, hl, hm, hn, hz⟩ := h
  have C := Lib.hid (ztrim_any _ _ _ (hm.below hb0) (by omega))
  have HB0 := Lib.hid hb0
  rcases sign_cases hz with ⟨h0, h1⟩ | ⟨h0, rfl, h1⟩ | ⟨h0, rfl, h1⟩
  all_goals
    have H1 := Lib.hid h1
    have hL : ((digs (val l)).length == 0) = (val l == 0) := by
      have := digs_pos (val l)
      rw [Bool.eq_iff_iff, beq_iff_eq, beq_iff_eq]
      have h := decide_eq_decide.1 this
      omega
    have hL2 : (((digs (val l)).length : Int) == 0) = (val l == 0) := by rw [← hL, Bool.eq_iff_iff, beq_iff_eq, beq_iff_eq]; omega
    have hv : (val l == 0) = true ∨ (val l == 0) = false := by cases (val l == 0) <;> simp
    first
      | (have hv0 : (val l == 0) = true := by rw [beq_iff_eq]; exact h0
         rw [hv0] at hL2)
      | (have hv0 : (val l == 0) = false := by rw [beq_eq_false_iff_ne]; omega
         rw [hv0] at hL2)
    clear h0 h1 hz hm hl hb0 hL hv hv0
    go_enter Tryd.func36, Tryd.ntmps36
    go_wp2_with fail
    refine (C.out).mono ?_
    rintro e w1 ⟨v1, rfl, hown1, hb1⟩
    obtain ⟨a1, cap1, hv1, hcap1, hcm1, hnil1, _⟩ := (Mg.of_owns hown1 (lm_digs _)).form
    subst hv1
    have HM1 := Lib.hid (Mg.of_owns hown1 (lm_digs _))
    have HFr1 := Lib.hid (Fr.of_owns hown1)
    obtain ⟨hc1, hf1⟩ := bcell hb1
    have hs1 := hb1.size
    repeat first | rw [World.size_alloc] at hs1 | rw [size_setCell] at hs1
    have HB1 := Lib.hid (below_call HB0.out hb1 (by first | omega | (simp; done) | (simp; omega)))
    have HbN1 := Lib.hid hb1
    clear hown1 hb1 hnil1
    go_wp2_with fail
    go_ret
    exact ⟨ret_int' H1.out.symm, HB1.out⟩

set_option maxHeartbeats 2000000 in
theorem zcmp_any (v1 v2 : Value) (l1 l2 : List Nat) (w : World) (h1 : Mg w v1 l1) (h2 : Mg w v2 l2) (hl1 : l1.length ≤ 1099511627776) (_hl2 : l2.length ≤ 1099511627776) :
    Calls Tryd.prog 41 #[v1, v2] w fun e w' => e = .returned (.int .i64 (cmpL l1 l2)) ∧ Below w.heap.size w w' := by
  have H1 := Lib.hid h1
  have H2 := Lib.hid h2
  obtain ⟨a1, cap1, rfl, _, _, _, _⟩ := h1.form
  obtain ⟨a2, cap2, rfl, _, _, _, _⟩ := h2.form
  clear h1 h2
  rcases Nat.lt_trichotomy l1.length l2.length with hlt | heq | hgt
  · have HC : Hid (cmpL l1 l2 = -1) := by show cmpL l1 l2 = -1; unfold cmpL; rw [if_pos hlt]
    have hb : ((l1.length : Int) != (l2.length : Int)) = true := by rw [bne_iff_ne]; omega
    go_enter Tryd.func41, Tryd.ntmps41
    go_wp2_with fail
    go_ret
    exact ⟨ret_int' HC.out.symm, Below.refl _ _⟩
  · have hb : ((l1.length : Int) != (l2.length : Int)) = false := by simp [heq]
    have HQ := Lib.hid heq
    clear heq
    go_enter Tryd.func41, Tryd.ntmps41
    go_wp2_with fail
    go_loopg [4, 5] l1.length (fun g s4 s5 wr => s5 = .int .i64 ((g : Int) - 1) ∧ g ≤ l1.length ∧ l1.drop g = l2.drop g ∧ Below w.heap.size w wr)
    case atStart => exact ⟨rfl, Nat.le_refl _, by rw [List.drop_eq_nil_of_le (Nat.le_refl _), List.drop_eq_nil_of_le (by rw [HQ.out]; exact Nat.le_refl _)], Below.refl _ _⟩
    case round =>
      obtain ⟨rfl, hg, hdr, hbx⟩ := hrel
      have HD := Lib.hid hdr
      have HBX := Lib.hid hbx
      clear hdr
      cases gk with
      | zero =>
        have HC : Hid (cmpL l1 l2 = 0) := by
          have : l1 = l2 := by simpa using HD.out
          show cmpL l1 l2 = 0
          rw [this, cmpL_same]
        clear hbx
        go_wp2_with fail
        go_ret
        exact ⟨ret_int' HC.out.symm, HBX.out⟩
      | succ g =>
        obtain ⟨x, hx⟩ : ∃ x, l1[g]? = some x := ⟨_, List.getElem?_eq_getElem (by omega)⟩
        obtain ⟨y, hy⟩ : ∃ y, l2[g]? = some y := ⟨_, List.getElem?_eq_getElem (by have := HQ.out; omega)⟩
        have hq := HQ.out
        obtain ⟨a1', cap1', hv1, _, _, _, hr1⟩ := (H1.out.below hbx).form
        obtain ⟨a2', cap2', hv2, _, _, _, hr2⟩ := (H2.out.below hbx).form
        injection hv1 with e1 e2 e3
        injection hv2 with e4 e5 e6
        subst e1 e3 e4 e6
        obtain ⟨b1, off1, rfl, hb1, hcl1⟩ := hr1 (by omega)
        obtain ⟨b2, off2, rfl, hb2, hcl2⟩ := hr2 (by omega)
        have c1 := hcl1 g x hx
        have c2 := hcl2 g y hy
        have hxB := H1.out.2.get hx
        have hyB := H2.out.2.get hy
        rw [B_def] at hxB hyB
        have hg2 : g < l2.length := by omega
        have hgi1 : (g : Int) < (l1.length : Int) := by omega
        have hgi2 : (g : Int) < (l2.length : Int) := by omega
        have HL1 := Lib.hid H1.out.2
        have HL2 := Lib.hid H2.out.2
        have HX := Lib.hid hx
        have HY := Lib.hid hy
        clear hcl1 hcl2 e2 e5 hbx hx hy hq
        rcases Nat.lt_trichotomy x y with hxy | hxy | hxy
        · have HC : Hid (cmpL l1 l2 = -1) := by
            have := val_lt_of_top HQ.out HL1.out HX.out HY.out hxy HD.out
            show cmpL l1 l2 = -1
            unfold cmpL
            rw [if_neg (by rw [HQ.out]; omega), if_neg (by rw [HQ.out]; omega), if_pos this]
          have hne : ((x : Int) != (y : Int)) = true := by rw [bne_iff_ne]; omega
          have hlti : decide (x < y) = true := decide_eq_true hxy
          go_wp2_with fail
          go_quiet (fail)
          go_wp2_with fail
          go_quiet (fail)
          go_wp2_with fail
          go_ret
          exact ⟨ret_int' HC.out.symm, by first | exact below_drewN HBX.out _ | exact below_drewN (below_drewN HBX.out _) _⟩
        · subst hxy
          have HD2 : Hid (l1.drop g = l2.drop g) := by
            have e1 := List.drop_eq_getElem_cons (l := l1) (i := g) (by omega)
            have e2 := List.drop_eq_getElem_cons (l := l2) (i := g) (by omega)
            show l1.drop g = l2.drop g
            rw [e1, e2, HD.out]
            congr 1
            rw [(List.getElem?_eq_some_iff.1 HX.out).2, (List.getElem?_eq_some_iff.1 HY.out).2]
          have hne : ((x : Int) != (x : Int)) = false := by simp
          go_wp2_with fail
          go_quiet (fail)
          go_wp2_with fail
          go_roundg g
          case measure => omega
          case rel => exact ⟨by go_num, by omega, HD2.out, below_drewN HBX.out _⟩
        · have HC : Hid (cmpL l1 l2 = 1) := by
            have := val_lt_of_top HQ.out.symm HL2.out HY.out HX.out hxy HD.out.symm
            show cmpL l1 l2 = 1
            unfold cmpL
            rw [if_neg (by rw [HQ.out]; omega), if_neg (by rw [HQ.out]; omega), if_neg (by omega), if_pos this]
          have hne : ((x : Int) != (y : Int)) = true := by rw [bne_iff_ne]; omega
          have hlti : decide (x < y) = false := decide_eq_false (by omega)
          go_wp2_with fail
          go_quiet (fail)
          go_wp2_with fail
          go_quiet (fail)
          go_wp2_with fail
          go_ret
          exact ⟨ret_int' HC.out.symm, by first | exact below_drewN HBX.out _ | exact below_drewN (below_drewN HBX.out _) _⟩
  · have HC : Hid (cmpL l1 l2 = 1) := by show cmpL l1 l2 = 1; unfold cmpL; rw [if_neg (by omega), if_pos hgt]
    have hb : ((l1.length : Int) != (l2.length : Int)) = true := by rw [bne_iff_ne]; omega
    go_enter Tryd.func41, Tryd.ntmps41
    go_wp2_with fail
    go_ret
    exact ⟨ret_int' HC.out.symm, Below.refl _ _⟩
end Go.Proofs.YtnhbdldchoepfaaDoor

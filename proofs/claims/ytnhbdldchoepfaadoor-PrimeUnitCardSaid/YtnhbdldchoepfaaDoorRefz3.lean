import Derived.Test.YtnhbdldchoepfaaDoorRefz2
import Derived.Test.YtnhbdldchoepfaaDoorLimb2
namespace Go.Proofs.YtnhbdldchoepfaaDoor
open Go.RowKit Limb
/-- A new slice of limbs of value N, at most K long. -/
def RawPost (N K : Nat) (w : World) (e : Ending) (w' : World) : Prop :=
  ∃ L v, e = .returned v ∧ w'.ownsRow w.heap.size 68 1 v L.length (limbCells L) ∧ Lm L ∧ val L = N ∧ L.length ≤ K ∧ Below w.heap.size w w'
theorem limbs_snoc {w : World} {base : Nat} {v : Value} {O : List Nat} {X : Int} {d : Nat} (h : w.ownsRow base 68 1 v (O.length + 1) (limbCells O ++ [.int .u32 X])) (hX : X = (d : Int)) : w.ownsRow base 68 1 v (O ++ [d]).length (limbCells (O ++ [d])) := by
  rw [limbCells_append, List.length_append]
  subst hX
  exact h
theorem one_u32 (X : Int) : ∀ u ∈ ([.int .u32 X] : List Value), u.oneCell' = true := by
  intro u hu
  rw [List.mem_singleton] at hu
  subst hu; rfl
theorem le_alloc {w : World} {a : Nat} (h : a ≤ w.heap.size) (o : Obj) : a ≤ (w.alloc o).heap.size := by simp; omega
set_option maxHeartbeats 2000000 in
theorem zsum_any (v1 v2 : Value) (l1 l2 : List Nat) (w : World) (h1 : Mg w v1 l1) (h2 : Mg w v2 l2) (hl1 : l1.length ≤ 1099511627776) (hl2 : l2.length ≤ 1099511627776) :
    Calls Tryd.prog 73 #[v1, v2] w (RawPost (val l1 + val l2) (max l1.length l2.length + 1) w) := by
  obtain ⟨i0, hi, hx⟩ := Option.map_eq_some_iff.1 info32
  simp only [Prod.mk.injEq] at hx
  obtain ⟨hz0, hz1, hz2⟩ := hx
  have H1 := Lib.hid h1
  have H2 := Lib.hid h2
  obtain ⟨a1, cap1, rfl, _, _, _, _⟩ := h1.form
  obtain ⟨a2, cap2, rfl, _, _, _, _⟩ := h2.form
  clear h1 h2
  go_enter Tryd.func73, Tryd.ntmps73
  go_wp2_with fail
  go_loopg [5, 6, 7] (max l1.length l2.length) (fun g s5 s6 s7 wr => ∃ (i c : Nat) (O : List Nat), i + g = max l1.length l2.length ∧ s6 = .int .u64 c ∧ s7 = .int .i64 i ∧ SumInv l1 l2 i O c ∧ wr.ownsRow w.heap.size 68 1 s5 O.length (limbCells O) ∧ Below w.heap.size w wr)
  case atStart => exact ⟨0, 0, [], by omega, rfl, rfl, SumInv.start _ _, World.ownsRow_nil _ _ _ _, Below.refl _ _⟩
  case round =>
    obtain ⟨i, c, O, hig, rfl, rfl, hI, hown, hbel⟩ := hrel
    have hc1 : c ≤ 1 := hI.2.2.1
    have hOl := hI.1
    have HI := Lib.hid hI
    have hsz := hbel.size
    obtain ⟨wo, rfl⟩ : ∃ wo : World, wo = wr := ⟨_, rfl⟩
    cases gk with
    | zero =>
      have hn1 : ¬ (i : Int) < (l1.length : Int) := by omega
      have hn2 : ¬ (i : Int) < (l2.length : Int) := by omega
      have HE := Lib.hid (hI.done (by omega) (by omega))
      have HO := Lib.hid hown
      have HBe := Lib.hid hbel
      have hOlen : O.length ≤ 1099511627776 := by omega
      have HOL := Lib.hid hOl
      clear hown hbel hI hOl
      have HA3x : Hid (O.length + 1 ≤ maxLen) := by show _ ≤ _; unfold maxLen; omega
      have HA4x : Hid ((O.length + 1) * 4 ≤ 140737488355328) := by show _ ≤ _; omega
      go_wp2_with (at_builtin; refine wpList_append_own _ rfl _ _ 22 rfl w.heap.size 68 i0 (.int .u32 0) 1 4 Tryd.underlying22 hi hz0 hz1 hz2 rfl (by decide) _ _ _ rfl (HO.out.alloc _) ⟨wo.heap.size, 0, none⟩ 1 1 [_] rfl rfl (cell_one_new _ _ _) (one_u32 _) HA3x.out HA4x.out (le_alloc hsz _) ?_)
      intro vx wx hownx hgrowx _
      have HX : Hid (wx.ownsRow w.heap.size 68 1 vx (O ++ [c]).length (limbCells (O ++ [c])) ∧ Below w.heap.size w wx) :=
        ⟨limbs_snoc hownx rfl, (HBe.out.alloc hsz _).grown hgrowx (le_alloc hsz _) fun k hk => (HO.out.lt k hk).1⟩
      clear hownx hgrowx
      go_wp2_with fail
      go_ret
      exact ⟨O ++ [c], _, rfl, HX.out.1, HE.out.1, HE.out.2, by have := HOL.out; rw [List.length_append, List.length_singleton]; omega, HX.out.2⟩
    | succ g =>
      have hst := hI.step H1.out.2 H2.out.2
      have HO := Lib.hid hown
      have HBe := Lib.hid hbel
      have hOlen : O.length ≤ 1099511627776 := by omega
      have hgetx := getD_lt H1.out.2 i
      have hgety := getD_lt H2.out.2 i
      rw [B_def] at hgetx hgety
      have hways : ∃ x y : Nat, l1[i]?.getD 0 = x ∧ l2[i]?.getD 0 = y ∧ ((i < l1.length ∧ i < l2.length ∧ l1[i]? = some x ∧ l2[i]? = some y) ∨ (i < l1.length ∧ ¬ i < l2.length ∧ l1[i]? = some x ∧ y = 0) ∨ (¬ i < l1.length ∧ i < l2.length ∧ x = 0 ∧ l2[i]? = some y)) := by
        refine ⟨_, _, rfl, rfl, ?_⟩
        by_cases c1 : i < l1.length <;> by_cases c2 : i < l2.length
        · left; exact ⟨c1, c2, by rw [List.getElem?_eq_getElem c1]; rfl, by rw [List.getElem?_eq_getElem c2]; rfl⟩
        · right; left; exact ⟨c1, c2, by rw [List.getElem?_eq_getElem c1]; rfl, by rw [List.getElem?_eq_none (by omega)]; rfl⟩
        · right; right; exact ⟨c1, c2, by rw [List.getElem?_eq_none (by omega)]; rfl, by rw [List.getElem?_eq_getElem c2]; rfl⟩
        · omega
      obtain ⟨x, y, ex, ey, hways⟩ := hways
      rw [ex, ey] at hst
      rw [ex] at hgetx
      rw [ey] at hgety
      have HST := Lib.hid hst
      clear hst ex ey hI
      have f1 := H1.out.below hbel
      have f2 := H2.out.below hbel
      obtain ⟨a1', cap1', hv1, _, _, _, hr1⟩ := f1.form
      obtain ⟨a2', cap2', hv2, _, _, _, hr2⟩ := f2.form
      injection hv1 with e1 e2 e3
      injection hv2 with e4 e5 e6
      subst e1 e3 e4 e6
      clear e2 e5 f1 f2 hown hbel
      have HOl := Lib.hid hOl
      clear hOl
      rcases hways with ⟨q1, q2, g1, g2⟩ | ⟨q1, q2, g1, rfl⟩ | ⟨q1, q2, rfl, g2⟩
      · obtain ⟨b1, off1, rfl, hb1, hcl1⟩ := hr1 (by omega)
        obtain ⟨b2, off2, rfl, hb2, hcl2⟩ := hr2 (by omega)
        have c1 := hcl1 i x g1
        have c2 := hcl2 i y g2
        have qi1 : (i : Int) < (l1.length : Int) := by omega
        have qi2 : (i : Int) < (l2.length : Int) := by omega
        clear hr1 hr2 hcl1 g1 hcl2 g2
        have HA3y0 : Hid (O.length + 1 ≤ maxLen) := by show _ ≤ _; unfold maxLen; omega
        have HA4y0 : Hid ((O.length + 1) * 4 ≤ 140737488355328) := by show _ ≤ _; omega
        go_wp2_with (at_builtin; refine wpList_append_own _ rfl _ _ 22 rfl w.heap.size 68 i0 (.int .u32 0) 1 4 Tryd.underlying22 hi hz0 hz1 hz2 rfl (by decide) _ _ _ rfl (HO.out.alloc _) ⟨wo.heap.size, 0, none⟩ 1 1 [_] rfl rfl (cell_one_new _ _ _) (one_u32 _) HA3y0.out HA4y0.out (le_alloc hsz _) ?_)
        intro vy0 wy0 howny0 hgrowy0 _
        have HX : Hid (wy0.ownsRow w.heap.size 68 1 vy0 (O ++ [(c + x + y) % B]).length (limbCells (O ++ [(c + x + y) % B])) ∧ Below w.heap.size w wy0) :=
          ⟨limbs_snoc howny0 (by rw [B_def]; omega), (HBe.out.alloc hsz _).grown hgrowy0 (le_alloc hsz _) fun k hk => (HO.out.lt k hk).1⟩
        clear howny0 hgrowy0
        go_wp2_with fail
        go_roundg g
        case measure => omega
        case rel => exact ⟨i + 1, (c + x + y) / B, _, by omega, by rw [B_def]; go_num, by go_num, HST.out, HX.out.1, HX.out.2⟩
      · obtain ⟨b1, off1, rfl, hb1, hcl1⟩ := hr1 (by omega)
        have c1 := hcl1 i x g1
        have qi1 : (i : Int) < (l1.length : Int) := by omega
        have qi2 : ¬ (i : Int) < (l2.length : Int) := by omega
        clear hr1 hr2 hcl1 g1 
        have HA3y1 : Hid (O.length + 1 ≤ maxLen) := by show _ ≤ _; unfold maxLen; omega
        have HA4y1 : Hid ((O.length + 1) * 4 ≤ 140737488355328) := by show _ ≤ _; omega
        go_wp2_with (at_builtin; refine wpList_append_own _ rfl _ _ 22 rfl w.heap.size 68 i0 (.int .u32 0) 1 4 Tryd.underlying22 hi hz0 hz1 hz2 rfl (by decide) _ _ _ rfl (HO.out.alloc _) ⟨wo.heap.size, 0, none⟩ 1 1 [_] rfl rfl (cell_one_new _ _ _) (one_u32 _) HA3y1.out HA4y1.out (le_alloc hsz _) ?_)
        intro vy1 wy1 howny1 hgrowy1 _
        have HX : Hid (wy1.ownsRow w.heap.size 68 1 vy1 (O ++ [(c + x + 0) % B]).length (limbCells (O ++ [(c + x + 0) % B])) ∧ Below w.heap.size w wy1) :=
          ⟨limbs_snoc howny1 (by rw [B_def]; omega), (HBe.out.alloc hsz _).grown hgrowy1 (le_alloc hsz _) fun k hk => (HO.out.lt k hk).1⟩
        clear howny1 hgrowy1
        go_wp2_with fail
        go_roundg g
        case measure => omega
        case rel => exact ⟨i + 1, (c + x + 0) / B, _, by omega, by rw [B_def]; go_num, by go_num, HST.out, HX.out.1, HX.out.2⟩
      · obtain ⟨b2, off2, rfl, hb2, hcl2⟩ := hr2 (by omega)
        have c2 := hcl2 i y g2
        have qi1 : ¬ (i : Int) < (l1.length : Int) := by omega
        have qi2 : (i : Int) < (l2.length : Int) := by omega
        clear hr1 hr2  hcl2 g2
        have HA3y2 : Hid (O.length + 1 ≤ maxLen) := by show _ ≤ _; unfold maxLen; omega
        have HA4y2 : Hid ((O.length + 1) * 4 ≤ 140737488355328) := by show _ ≤ _; omega
        go_wp2_with (at_builtin; refine wpList_append_own _ rfl _ _ 22 rfl w.heap.size 68 i0 (.int .u32 0) 1 4 Tryd.underlying22 hi hz0 hz1 hz2 rfl (by decide) _ _ _ rfl (HO.out.alloc _) ⟨wo.heap.size, 0, none⟩ 1 1 [_] rfl rfl (cell_one_new _ _ _) (one_u32 _) HA3y2.out HA4y2.out (le_alloc hsz _) ?_)
        intro vy2 wy2 howny2 hgrowy2 _
        have HX : Hid (wy2.ownsRow w.heap.size 68 1 vy2 (O ++ [(c + 0 + y) % B]).length (limbCells (O ++ [(c + 0 + y) % B])) ∧ Below w.heap.size w wy2) :=
          ⟨limbs_snoc howny2 (by rw [B_def]; omega), (HBe.out.alloc hsz _).grown hgrowy2 (le_alloc hsz _) fun k hk => (HO.out.lt k hk).1⟩
        clear howny2 hgrowy2
        go_wp2_with fail
        go_roundg g
        case measure => omega
        case rel => exact ⟨i + 1, (c + 0 + y) / B, _, by omega, by rw [B_def]; go_num, by go_num, HST.out, HX.out.1, HX.out.2⟩

set_option maxHeartbeats 2000000 in
theorem zdif_any (v1 v2 : Value) (l1 l2 : List Nat) (w : World) (h1 : Mg w v1 l1) (h2 : Mg w v2 l2) (hl1 : l1.length ≤ 1099511627776) (hl2 : l2.length ≤ l1.length) (hle : val l2 ≤ val l1) :
    Calls Tryd.prog 72 #[v1, v2] w (RawPost (val l1 - val l2) l1.length w) := by
  obtain ⟨i0, hi, hx⟩ := Option.map_eq_some_iff.1 info32
  simp only [Prod.mk.injEq] at hx
  obtain ⟨hz0, hz1, hz2⟩ := hx
  have H1 := Lib.hid h1
  have H2 := Lib.hid h2
  obtain ⟨a1, cap1, rfl, _, _, _, _⟩ := h1.form
  obtain ⟨a2, cap2, rfl, _, _, _, _⟩ := h2.form
  clear h1 h2
  have HLE := Lib.hid hle
  clear hle
  go_enter Tryd.func72, Tryd.ntmps72
  go_wp2_with fail
  go_loopg [5, 6, 7, 8] l1.length (fun g s5 s6 s7 s8 wr => ∃ (i b : Nat) (O : List Nat), i + g = l1.length ∧ s6 = .int .u64 b ∧ s7 = .int .i64 i ∧ DifInv l1 l2 i O b ∧ wr.ownsRow w.heap.size 68 1 s5 O.length (limbCells O) ∧ Below w.heap.size w wr)
  case atStart => exact ⟨0, 0, [], by omega, rfl, rfl, DifInv.start _ _, World.ownsRow_nil _ _ _ _, Below.refl _ _⟩
  case round =>
    obtain ⟨i, b, O, hig, rfl, rfl, hI, hown, hbel⟩ := hrel
    have hb1 : b ≤ 1 := hI.2.2.1
    have hOlen : O.length ≤ 1099511627776 := by have := hI.1; omega
    have HOl := Lib.hid hI.1
    have hsz := hbel.size
    obtain ⟨wo, rfl⟩ : ∃ wo : World, wo = wr := ⟨_, rfl⟩
    have HO := Lib.hid hown
    have HBe := Lib.hid hbel
    cases gk with
    | zero =>
      have hn1 : ¬ (i : Int) < (l1.length : Int) := by omega
      have HE := Lib.hid (hI.done (by omega) (by omega) HLE.out)
      clear hown hbel hI
      go_wp2_with fail
      go_ret
      exact ⟨O, _, rfl, HO.out, HE.out.1, HE.out.2, by have := HOl.out; omega, HBe.out⟩
    | succ g =>
      have hst := hI.step H1.out.2 H2.out.2
      have hgetx := getD_lt H1.out.2 i
      have hgety := getD_lt H2.out.2 i
      rw [B_def] at hgetx hgety
      have hways : ∃ x y : Nat, l1[i]?.getD 0 = x ∧ l2[i]?.getD 0 = y ∧ l1[i]? = some x ∧ ((i < l2.length ∧ l2[i]? = some y) ∨ (¬ i < l2.length ∧ y = 0)) := by
        refine ⟨_, _, rfl, rfl, by rw [List.getElem?_eq_getElem (show i < l1.length by omega)]; rfl, ?_⟩
        by_cases c2 : i < l2.length
        · left; exact ⟨c2, by rw [List.getElem?_eq_getElem c2]; rfl⟩
        · right; exact ⟨c2, by rw [List.getElem?_eq_none (by omega)]; rfl⟩
      obtain ⟨x, y, ex, ey, g1, hways⟩ := hways
      rw [ex, ey] at hst
      rw [ex] at hgetx
      rw [ey] at hgety
      clear ex ey hI
      have f1 := H1.out.below hbel
      have f2 := H2.out.below hbel
      obtain ⟨a1', cap1', hv1, _, _, _, hr1⟩ := f1.form
      obtain ⟨a2', cap2', hv2, _, _, _, hr2⟩ := f2.form
      injection hv1 with e1 e2 e3
      injection hv2 with e4 e5 e6
      subst e1 e3 e4 e6
      obtain ⟨p1, off1, rfl, hp1, hcl1⟩ := hr1 (by omega)
      have c1 := hcl1 i x g1
      have qi1 : (i : Int) < (l1.length : Int) := by omega
      have G1 := Lib.hid g1
      clear e2 e5 f1 f2 hown hbel hcl1 g1 hr1
      have hlt : x < b + y ∨ ¬ x < b + y := by omega
      rcases hways with ⟨q2, g2⟩ | ⟨q2, rfl⟩
      · obtain ⟨p2, off2, rfl, hp2, hcl2⟩ := hr2 (by omega)
        have c2 := hcl2 i y g2
        have qi2 : (i : Int) < (l2.length : Int) := by omega
        clear hcl2 hr2 g2
        rcases hlt with hlt | hlt
        · have HST : Hid (DifInv l1 l2 (i + 1) (O ++ [x + B - (b + y)]) 1) := by unfold difD difB at hst; rwa [if_pos hlt, if_pos hlt] at hst
          have hlti : (x : Int) < (b : Int) + (y : Int) := by omega
          clear hst
          have HA3y0 : Hid (O.length + 1 ≤ maxLen) := by show _ ≤ _; unfold maxLen; omega
          have HA4y0 : Hid ((O.length + 1) * 4 ≤ 140737488355328) := by show _ ≤ _; omega
          go_wp2_with (at_builtin; refine wpList_append_own _ rfl _ _ 22 rfl w.heap.size 68 i0 (.int .u32 0) 1 4 Tryd.underlying22 hi hz0 hz1 hz2 rfl (by decide) _ _ _ rfl (HO.out.alloc _) ⟨wo.heap.size, 0, none⟩ 1 1 [_] rfl rfl (cell_one_new _ _ _) (one_u32 _) HA3y0.out HA4y0.out (le_alloc hsz _) ?_)
          intro vy0 wy0 howny0 hgrowy0 _
          have HX : Hid (wy0.ownsRow w.heap.size 68 1 vy0 (O ++ [x + B - (b + y)]).length (limbCells (O ++ [x + B - (b + y)])) ∧ Below w.heap.size w wy0) :=
            ⟨limbs_snoc howny0 (by (try rw [IntKind.wrap_u64]); (try rw [B_def]); omega), (HBe.out.alloc hsz _).grown hgrowy0 (le_alloc hsz _) fun k hk => (HO.out.lt k hk).1⟩
          have hcc1 : wy0.cell? ⟨p1, off1 + i, none⟩ = some (.int .u32 (x : Nat)) := by
            exact (H1.out.below HX.out.2).cell G1.out
          clear howny0 hgrowy0
          go_wp2_with fail
          go_roundg g
          case measure => omega
          case rel => exact ⟨i + 1, 1, _, by omega, rfl, by go_num, HST.out, HX.out.1, HX.out.2⟩
        · have HST : Hid (DifInv l1 l2 (i + 1) (O ++ [x - (b + y)]) 0) := by unfold difD difB at hst; rwa [if_neg hlt, if_neg hlt] at hst
          have hlti : ¬ (x : Int) < (b : Int) + (y : Int) := by omega
          clear hst
          have HA3y1 : Hid (O.length + 1 ≤ maxLen) := by show _ ≤ _; unfold maxLen; omega
          have HA4y1 : Hid ((O.length + 1) * 4 ≤ 140737488355328) := by show _ ≤ _; omega
          go_wp2_with (at_builtin; refine wpList_append_own _ rfl _ _ 22 rfl w.heap.size 68 i0 (.int .u32 0) 1 4 Tryd.underlying22 hi hz0 hz1 hz2 rfl (by decide) _ _ _ rfl (HO.out.alloc _) ⟨wo.heap.size, 0, none⟩ 1 1 [_] rfl rfl (cell_one_new _ _ _) (one_u32 _) HA3y1.out HA4y1.out (le_alloc hsz _) ?_)
          intro vy1 wy1 howny1 hgrowy1 _
          have HX : Hid (wy1.ownsRow w.heap.size 68 1 vy1 (O ++ [x - (b + y)]).length (limbCells (O ++ [x - (b + y)])) ∧ Below w.heap.size w wy1) :=
            ⟨limbs_snoc howny1 (by (try rw [IntKind.wrap_u64]); (try rw [B_def]); omega), (HBe.out.alloc hsz _).grown hgrowy1 (le_alloc hsz _) fun k hk => (HO.out.lt k hk).1⟩
          have hcc1 : wy1.cell? ⟨p1, off1 + i, none⟩ = some (.int .u32 (x : Nat)) := by
            exact (H1.out.below HX.out.2).cell G1.out
          clear howny1 hgrowy1
          go_wp2_with fail
          go_roundg g
          case measure => omega
          case rel => exact ⟨i + 1, 0, _, by omega, rfl, by go_num, HST.out, HX.out.1, HX.out.2⟩
      · have qi2 : ¬ (i : Int) < (l2.length : Int) := by omega
        clear hr2
        rcases hlt with hlt | hlt
        · have HST : Hid (DifInv l1 l2 (i + 1) (O ++ [x + B - (b + 0)]) 1) := by unfold difD difB at hst; rwa [if_pos hlt, if_pos hlt] at hst
          have hlti : (x : Int) < (b : Int) := by omega
          clear hst
          have HA3y2 : Hid (O.length + 1 ≤ maxLen) := by show _ ≤ _; unfold maxLen; omega
          have HA4y2 : Hid ((O.length + 1) * 4 ≤ 140737488355328) := by show _ ≤ _; omega
          go_wp2_with (at_builtin; refine wpList_append_own _ rfl _ _ 22 rfl w.heap.size 68 i0 (.int .u32 0) 1 4 Tryd.underlying22 hi hz0 hz1 hz2 rfl (by decide) _ _ _ rfl (HO.out.alloc _) ⟨wo.heap.size, 0, none⟩ 1 1 [_] rfl rfl (cell_one_new _ _ _) (one_u32 _) HA3y2.out HA4y2.out (le_alloc hsz _) ?_)
          intro vy2 wy2 howny2 hgrowy2 _
          have HX : Hid (wy2.ownsRow w.heap.size 68 1 vy2 (O ++ [x + B - (b + 0)]).length (limbCells (O ++ [x + B - (b + 0)])) ∧ Below w.heap.size w wy2) :=
            ⟨limbs_snoc howny2 (by (try rw [IntKind.wrap_u64]); (try rw [B_def]); omega), (HBe.out.alloc hsz _).grown hgrowy2 (le_alloc hsz _) fun k hk => (HO.out.lt k hk).1⟩
          have hcc1 : wy2.cell? ⟨p1, off1 + i, none⟩ = some (.int .u32 (x : Nat)) := by
            exact (H1.out.below HX.out.2).cell G1.out
          clear howny2 hgrowy2
          go_wp2_with fail
          go_roundg g
          case measure => omega
          case rel => exact ⟨i + 1, 1, _, by omega, rfl, by go_num, HST.out, HX.out.1, HX.out.2⟩
        · have HST : Hid (DifInv l1 l2 (i + 1) (O ++ [x - (b + 0)]) 0) := by unfold difD difB at hst; rwa [if_neg hlt, if_neg hlt] at hst
          have hlti : ¬ (x : Int) < (b : Int) := by omega
          clear hst
          have HA3y3 : Hid (O.length + 1 ≤ maxLen) := by show _ ≤ _; unfold maxLen; omega
          have HA4y3 : Hid ((O.length + 1) * 4 ≤ 140737488355328) := by show _ ≤ _; omega
          go_wp2_with (at_builtin; refine wpList_append_own _ rfl _ _ 22 rfl w.heap.size 68 i0 (.int .u32 0) 1 4 Tryd.underlying22 hi hz0 hz1 hz2 rfl (by decide) _ _ _ rfl (HO.out.alloc _) ⟨wo.heap.size, 0, none⟩ 1 1 [_] rfl rfl (cell_one_new _ _ _) (one_u32 _) HA3y3.out HA4y3.out (le_alloc hsz _) ?_)
          intro vy3 wy3 howny3 hgrowy3 _
          have HX : Hid (wy3.ownsRow w.heap.size 68 1 vy3 (O ++ [x - (b + 0)]).length (limbCells (O ++ [x - (b + 0)])) ∧ Below w.heap.size w wy3) :=
            ⟨limbs_snoc howny3 (by (try rw [IntKind.wrap_u64]); (try rw [B_def]); omega), (HBe.out.alloc hsz _).grown hgrowy3 (le_alloc hsz _) fun k hk => (HO.out.lt k hk).1⟩
          have hcc1 : wy3.cell? ⟨p1, off1 + i, none⟩ = some (.int .u32 (x : Nat)) := by
            exact (H1.out.below HX.out.2).cell G1.out
          clear howny3 hgrowy3
          go_wp2_with fail
          go_roundg g
          case measure => omega
          case rel => exact ⟨i + 1, 0, _, by omega, rfl, by go_num, HST.out, HX.out.1, HX.out.2⟩
end Go.Proofs.YtnhbdldchoepfaaDoor

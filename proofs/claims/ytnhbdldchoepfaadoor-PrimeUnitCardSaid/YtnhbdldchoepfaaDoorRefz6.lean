import Derived.Test.YtnhbdldchoepfaaDoorRefz5
namespace Go.Proofs.YtnhbdldchoepfaaDoor
open Go.RowKit Limb
theorem sz_neg (z : Int) : sz (-z) = sz z := by unfold sz; rw [Int.natAbs_neg]
set_option maxHeartbeats 4000000 in
theorem zsub_any (s : Bool) (a : Option Addr) (n cap : Nat) (z : Int) (k : Nat) (s' : Bool) (a' : Option Addr) (n' cap' : Nat) (z' : Int) (k' : Nat) (w : World) (h : IsZ w s a n cap z k) (h' : IsZ w s' a' n' cap' z' k') (hk : k ≤ 1073741824) (hk' : k' ≤ 1073741824) :
    Calls Tryd.prog 69 #[.agg #[.bool s, .slice a n cap], .agg #[.bool s', .slice a' n' cap']] w (ZPost (z - z') w) := by
  have hb0 := (((Below.refl w.heap.size w).alloc (Nat.le_refl _) (.cells #[.bool s, .slice a n cap] 24)).alloc (by first | omega | (simp; done) | (simp; omega)) (.cells #[.bool s', .slice a' n' cap'] 24)).alloc (by first | omega | (simp; done) | (simp; omega)) (.cells #[.bool false, .slice none 0 0] 24)
  have HN := Lib.hid (fun W (hb : Below w.heap.size w W) => zneg_any _ _ _ _ _ _ W (h'.below hb) (by omega))
  have hsz' : sz (-z') ≤ 1073741824 := by
    obtain ⟨l', hl', hm', hn', hz'⟩ := h'
    rw [sz_neg]; unfold sz; rw [(signed_neg hz').1]
    exact digs_le_len (by omega) hm'.2
  have HA := Lib.hid (fun (W : World) (s1 : Bool) (a1 : Option Addr) (n1 cap1 : Nat) (hc : Can W s1 a1 n1 cap1 (-z')) (hb : Below w.heap.size w W) => zadd_any _ _ _ _ _ _ _ _ _ _ _ _ W (h.below hb) hc.isZ hk hsz')
  have HB0 := Lib.hid hb0
  have e : z + -z' = z - z' := by omega
  rw [e] at HA
  clear h h' hb0 e
  go_enter Tryd.func69, Tryd.ntmps69
  go_wp2_with fail
  have tok1 : True := trivial
  go_region_held3 (fun W => W.cell? ⟨w.heap.size, 0, none⟩ = some (.bool s) ∧ W.cell? ⟨w.heap.size, 1, none⟩ = some (.slice a n cap) ∧ W.cell? ⟨w.heap.size + 1, 0, none⟩ = some (.bool s') ∧ W.cell? ⟨w.heap.size + 1, 1, none⟩ = some (.slice a' n' cap')) (((try dsimp only); (repeat' apply And.intro) <;> (first | assumption | go_keep | (go_split_ands; (repeat (first | rw [cs_other (by first | omega | (simp; done) | (simp; omega))] | rw [ca_past (by first | omega | (simp; done) | (simp; omega))] | rw [ca_drew])); assumption))))
    (first | (go_at_call 74; have _t := tok1; clear tok1; refine (HN.out _ ?_).mono ?_; exact HB0.out.drew; rintro e w1 ⟨s1, a1, n1, cap1, rfl, hz1, hfr1, hb1⟩; have HZ1 := Lib.hid hz1; have HFr1 := Lib.hid hfr1; clear hz1 hfr1; obtain ⟨hc1, hf1⟩ := bcell hb1; have hs1 := hb1.size; (try simp at hs1); have HB1 := Lib.hid (below_call HB0.out.drew hb1 (by first | omega | (simp; done) | (simp; omega))); have dc1_0 : w1.cell? ⟨w.heap.size, 0, none⟩ = some (.bool s) := (by ((repeat (first | rw [hc1 _ _ (by first | omega | (simp; done) | (simp; omega))] | rw [ca_drew] | rw [ca_past (by first | omega | (simp; done) | (simp; omega))] | rw [ca_here (by first | omega | (simp; done) | (simp; omega))] | rw [cs_other (by first | omega | (simp; done) | (simp; omega))])) <;> (first | rfl | assumption | (simp; done)))); have dc1_1 : w1.cell? ⟨w.heap.size, 1, none⟩ = some (.slice a n cap) := (by ((repeat (first | rw [hc1 _ _ (by first | omega | (simp; done) | (simp; omega))] | rw [ca_drew] | rw [ca_past (by first | omega | (simp; done) | (simp; omega))] | rw [ca_here (by first | omega | (simp; done) | (simp; omega))] | rw [cs_other (by first | omega | (simp; done) | (simp; omega))])) <;> (first | rfl | assumption | (simp; done)))); have dc1_2 : w1.cell? ⟨w.heap.size + 1, 0, none⟩ = some (.bool s') := (by ((repeat (first | rw [hc1 _ _ (by first | omega | (simp; done) | (simp; omega))] | rw [ca_drew] | rw [ca_past (by first | omega | (simp; done) | (simp; omega))] | rw [ca_here (by first | omega | (simp; done) | (simp; omega))] | rw [cs_other (by first | omega | (simp; done) | (simp; omega))])) <;> (first | rfl | assumption | (simp; done)))); have dc1_3 : w1.cell? ⟨w.heap.size + 1, 1, none⟩ = some (.slice a' n' cap') := (by ((repeat (first | rw [hc1 _ _ (by first | omega | (simp; done) | (simp; omega))] | rw [ca_drew] | rw [ca_past (by first | omega | (simp; done) | (simp; omega))] | rw [ca_here (by first | omega | (simp; done) | (simp; omega))] | rw [cs_other (by first | omega | (simp; done) | (simp; omega))])) <;> (first | rfl | assumption | (simp; done)))); have dc1_4 : w1.cell? ⟨w.heap.size + 1 + 1, 0, none⟩ = some (.bool false) := (by ((repeat (first | rw [hc1 _ _ (by first | omega | (simp; done) | (simp; omega))] | rw [ca_drew] | rw [ca_past (by first | omega | (simp; done) | (simp; omega))] | rw [ca_here (by first | omega | (simp; done) | (simp; omega))] | rw [cs_other (by first | omega | (simp; done) | (simp; omega))])) <;> (first | rfl | assumption | (simp; done)))); have dc1_5 : w1.cell? ⟨w.heap.size + 1 + 1, 1, none⟩ = some (.slice none 0 0) := (by ((repeat (first | rw [hc1 _ _ (by first | omega | (simp; done) | (simp; omega))] | rw [ca_drew] | rw [ca_past (by first | omega | (simp; done) | (simp; omega))] | rw [ca_here (by first | omega | (simp; done) | (simp; omega))] | rw [cs_other (by first | omega | (simp; done) | (simp; omega))])) <;> (first | rfl | assumption | (simp; done)))); have df1_0 : w1.frozen? ⟨w.heap.size + 1 + 1, 0, none⟩ = false := (by ((repeat (first | rw [hf1 _ _ (by first | omega | (simp; done) | (simp; omega))] | rw [fa_drew] | rw [fa_past (by first | omega | (simp; done) | (simp; omega))] | rw [fa_here (by first | omega | (simp; done) | (simp; omega))] | rw [fs_other (by first | omega | (simp; done) | (simp; omega))])) <;> (first | rfl | assumption | (simp; done)))); have df1_1 : w1.frozen? ⟨w.heap.size + 1 + 1, 1, none⟩ = false := (by ((repeat (first | rw [hf1 _ _ (by first | omega | (simp; done) | (simp; omega))] | rw [fa_drew] | rw [fa_past (by first | omega | (simp; done) | (simp; omega))] | rw [fa_here (by first | omega | (simp; done) | (simp; omega))] | rw [fs_other (by first | omega | (simp; done) | (simp; omega))])) <;> (first | rfl | assumption | (simp; done)))); clear hc1 hf1) | (go_at_call 68; refine (HA.out _ _ _ _ _ HZ1.out ?_).mono ?_; exact HB1.out; rintro e w2 ⟨s2, a2, n2, cap2, rfl, hz2, hfr2, hb2⟩; have HZ2 := Lib.hid hz2; have HFr2 := Lib.hid hfr2; clear hz2 hfr2; obtain ⟨hc2, hf2⟩ := bcell hb2; have hs2 := hb2.size; (try simp at hs2); have HB2 := Lib.hid (below_call HB1.out hb2 (by first | omega | (simp; done) | (simp; omega))); have dc2_0 : w2.cell? ⟨w.heap.size, 0, none⟩ = some (.bool s) := (by ((repeat (first | rw [hc2 _ _ (by first | omega | (simp; done) | (simp; omega))] | rw [ca_drew] | rw [ca_past (by first | omega | (simp; done) | (simp; omega))] | rw [ca_here (by first | omega | (simp; done) | (simp; omega))] | rw [cs_other (by first | omega | (simp; done) | (simp; omega))])) <;> (first | rfl | assumption | (simp; done)))); have dc2_1 : w2.cell? ⟨w.heap.size, 1, none⟩ = some (.slice a n cap) := (by ((repeat (first | rw [hc2 _ _ (by first | omega | (simp; done) | (simp; omega))] | rw [ca_drew] | rw [ca_past (by first | omega | (simp; done) | (simp; omega))] | rw [ca_here (by first | omega | (simp; done) | (simp; omega))] | rw [cs_other (by first | omega | (simp; done) | (simp; omega))])) <;> (first | rfl | assumption | (simp; done)))); have dc2_2 : w2.cell? ⟨w.heap.size + 1, 0, none⟩ = some (.bool s') := (by ((repeat (first | rw [hc2 _ _ (by first | omega | (simp; done) | (simp; omega))] | rw [ca_drew] | rw [ca_past (by first | omega | (simp; done) | (simp; omega))] | rw [ca_here (by first | omega | (simp; done) | (simp; omega))] | rw [cs_other (by first | omega | (simp; done) | (simp; omega))])) <;> (first | rfl | assumption | (simp; done)))); have dc2_3 : w2.cell? ⟨w.heap.size + 1, 1, none⟩ = some (.slice a' n' cap') := (by ((repeat (first | rw [hc2 _ _ (by first | omega | (simp; done) | (simp; omega))] | rw [ca_drew] | rw [ca_past (by first | omega | (simp; done) | (simp; omega))] | rw [ca_here (by first | omega | (simp; done) | (simp; omega))] | rw [cs_other (by first | omega | (simp; done) | (simp; omega))])) <;> (first | rfl | assumption | (simp; done)))); have dc2_4 : w2.cell? ⟨w.heap.size + 1 + 1, 0, none⟩ = some (.bool false) := (by ((repeat (first | rw [hc2 _ _ (by first | omega | (simp; done) | (simp; omega))] | rw [ca_drew] | rw [ca_past (by first | omega | (simp; done) | (simp; omega))] | rw [ca_here (by first | omega | (simp; done) | (simp; omega))] | rw [cs_other (by first | omega | (simp; done) | (simp; omega))])) <;> (first | rfl | assumption | (simp; done)))); have dc2_5 : w2.cell? ⟨w.heap.size + 1 + 1, 1, none⟩ = some (.slice none 0 0) := (by ((repeat (first | rw [hc2 _ _ (by first | omega | (simp; done) | (simp; omega))] | rw [ca_drew] | rw [ca_past (by first | omega | (simp; done) | (simp; omega))] | rw [ca_here (by first | omega | (simp; done) | (simp; omega))] | rw [cs_other (by first | omega | (simp; done) | (simp; omega))])) <;> (first | rfl | assumption | (simp; done)))); have df2_0 : w2.frozen? ⟨w.heap.size + 1 + 1, 0, none⟩ = false := (by ((repeat (first | rw [hf2 _ _ (by first | omega | (simp; done) | (simp; omega))] | rw [fa_drew] | rw [fa_past (by first | omega | (simp; done) | (simp; omega))] | rw [fa_here (by first | omega | (simp; done) | (simp; omega))] | rw [fs_other (by first | omega | (simp; done) | (simp; omega))])) <;> (first | rfl | assumption | (simp; done)))); have df2_1 : w2.frozen? ⟨w.heap.size + 1 + 1, 1, none⟩ = false := (by ((repeat (first | rw [hf2 _ _ (by first | omega | (simp; done) | (simp; omega))] | rw [fa_drew] | rw [fa_past (by first | omega | (simp; done) | (simp; omega))] | rw [fa_here (by first | omega | (simp; done) | (simp; omega))] | rw [fs_other (by first | omega | (simp; done) | (simp; omega))])) <;> (first | rfl | assumption | (simp; done)))); clear hc2 hf2))
  go_wp2_with fail
  refine bodyPost_ret (v := .agg #[.bool s2, .slice a2 n2 cap2]) (zres2 rfl rfl dc2_4 dc2_5) rfl ?_
  exact zfin HB2.out (by first | omega | (simp; done) | (simp; omega)) (R := (w.heap.size + 1 + 1)) (base := (w.heap.size + 1 + 1) + 1) (Nat.lt_succ_self _) HZ2.out (HFr2.out.mono (by first | omega | (simp; done) | (simp; omega))) _ _

/-! ### Equality of canonical numbers -/
theorem can_same {w : World} {s : Bool} {a : Option Addr} {n cap : Nat} {z : Int} {s' : Bool} {a' : Option Addr} {n' cap' : Nat} {z' : Int} (h : Can w s a n cap z) (h' : Can w s' a' n' cap' z') :
    (z = z' ∧ s = s' ∧ n = n' ∧ cmpL (digs z.natAbs) (digs z'.natAbs) = 0) ∨ (z ≠ z' ∧ (s ≠ s' ∨ n ≠ n' ∨ cmpL (digs z.natAbs) (digs z'.natAbs) ≠ 0)) := by
  obtain ⟨e1, e2, _⟩ := h
  obtain ⟨e3, e4, _⟩ := h'
  by_cases hz : z = z'
  · left; subst hz; exact ⟨rfl, e1.trans e3.symm, e2.trans e4.symm, cmpL_same _⟩
  · right
    refine ⟨hz, ?_⟩
    by_cases hs : s = s'
    · right; right
      rw [cmpL_digs]
      have hd : decide (z < 0) = decide (z' < 0) := by rw [← e1, ← e3, hs]
      have hd' := decide_eq_decide.1 hd
      by_cases c1 : z.natAbs < z'.natAbs
      · rw [if_pos c1]; omega
      · rw [if_neg c1, if_pos (by omega)]; omega
    · left; exact hs
set_option maxHeartbeats 4000000 in
theorem zsame_any (s : Bool) (a : Option Addr) (n cap : Nat) (z : Int) (s' : Bool) (a' : Option Addr) (n' cap' : Nat) (z' : Int) (w : World) (h : Can w s a n cap z) (h' : Can w s' a' n' cap' z') (hk : sz z ≤ 1073741824) (hk' : sz z' ≤ 1073741824) :
    Calls Tryd.prog 16 #[.agg #[.bool s, .slice a n cap], .agg #[.bool s', .slice a' n' cap']] w fun e w' => e = .returned (.bool (decide (z = z'))) ∧ Below w.heap.size w w' := by
  have hb0 := ((Below.refl w.heap.size w).alloc (Nat.le_refl _) (.cells #[.bool s, .slice a n cap] 24)).alloc (by first | omega | (simp; done) | (simp; omega)) (.cells #[.bool s', .slice a' n' cap'] 24)
  have HC := Lib.hid (fun W (hb : Below w.heap.size w W) => zcmp_any _ _ _ _ W (h.2.2.below hb) (h'.2.2.below hb) (by unfold sz at hk; omega) (by unfold sz at hk'; omega))
  have HB0 := Lib.hid hb0
  have hcs := can_same h h'
  clear h h' hb0
  generalize cmpL (digs z.natAbs) (digs z'.natAbs) = cc at *
  have hways : (decide (z = z') = true ∧ (s == s') = true ∧ ((n : Int) == (n' : Int)) = true ∧ (cc == 0) = true) ∨ (decide (z = z') = false ∧ (s == s') = false) ∨ (decide (z = z') = false ∧ (s == s') = true ∧ ((n : Int) == (n' : Int)) = false) ∨ (decide (z = z') = false ∧ (s == s') = true ∧ ((n : Int) == (n' : Int)) = true ∧ (cc == 0) = false) := by
    simp only [decide_eq_true_eq, decide_eq_false_iff_not, beq_iff_eq, beq_eq_false_iff_ne]
    rcases hcs with ⟨h1, h2, h3, h4⟩ | ⟨h1, h2⟩
    · left; exact ⟨h1, h2, by omega, h4⟩
    · right
      by_cases c1 : s = s'
      · right
        by_cases c2 : n = n'
        · right
          refine ⟨h1, c1, by omega, ?_⟩
          rcases h2 with h2 | h2 | h2
          · exact absurd c1 h2
          · exact absurd c2 h2
          · exact h2
        · left; exact ⟨h1, c1, by omega⟩
      · left; exact ⟨h1, c1⟩
  clear hcs
  rcases hways with ⟨d1, d2, d3, d4⟩ | ⟨d1, d2⟩ | ⟨d1, d2, d3⟩ | ⟨d1, d2, d3, d4⟩
  · have HD := Lib.hid d1
    clear d1
    go_enter Tryd.func16, Tryd.ntmps16
    go_wp2_with (go_at_call 41; refine (HC.out _ HB0.out).mono ?_; rintro e w1 ⟨rfl, hb1⟩; have HB1 := Lib.hid (below_call HB0.out hb1 (by first | omega | (simp; done) | (simp; omega))); clear hb1)
    go_ret
    exact ⟨ret_bool' HD.out.symm, HB1.out⟩
  · have HD := Lib.hid d1
    clear d1
    go_enter Tryd.func16, Tryd.ntmps16
    go_wp2_with fail
    go_ret
    exact ⟨ret_bool' HD.out.symm, HB0.out⟩
  · have HD := Lib.hid d1
    clear d1
    go_enter Tryd.func16, Tryd.ntmps16
    go_wp2_with fail
    go_ret
    exact ⟨ret_bool' HD.out.symm, HB0.out⟩
  · have HD := Lib.hid d1
    clear d1
    go_enter Tryd.func16, Tryd.ntmps16
    go_wp2_with (go_at_call 41; refine (HC.out _ HB0.out).mono ?_; rintro e w1 ⟨rfl, hb1⟩; have HB1 := Lib.hid (below_call HB0.out hb1 (by first | omega | (simp; done) | (simp; omega))); clear hb1)
    go_ret
    exact ⟨ret_bool' HD.out.symm, HB1.out⟩
end Go.Proofs.YtnhbdldchoepfaaDoor

/- Natural numbers of the program: a step of long division. -/
import Derived.Test.YtnhbdldchoepfaaDoorNe
import Derived.Test.YtnhbdldchoepfaaDoorLimb5
namespace Go.Proofs.YtnhbdldchoepfaaDoor
open Go.RowKit Limb
theorem getMid {Lo M Hi : List Nat} {i x : Nat} (h : M[i]? = some x) : ((Lo ++ (M ++ Hi)).map lb)[Lo.length + i]? = some (lb x) := by
  refine getL ?_
  have hlt := (List.getElem?_eq_some_iff.1 h).1
  rw [List.getElem?_append_right (by omega), show Lo.length + i - Lo.length = i by omega, List.getElem?_append_left hlt]; exact h
theorem setMid (Lo N R Hi : List Nat) (y x : Nat) {i : Nat} (hi : N.length = i) : ((Lo ++ ((N ++ y :: R) ++ Hi)).map lb).set (Lo.length + i) (ex (.int .u32 (x : Int))) = (Lo ++ (((N ++ [x]) ++ R) ++ Hi)).map lb := by
  have := setL (Lo ++ N) (R ++ Hi) y x
  rw [List.length_append, hi] at this
  simp only [List.append_assoc, List.cons_append, List.nil_append] at this ⊢
  exact this
theorem lenMid {Lo M Hi : List Nat} {i : Nat} (h : i < M.length) : Lo.length + i < ((Lo ++ (M ++ Hi)).map lb).length := by simp; omega
theorem dif64_mod {x y : Nat} (hx : x < B) (hy : y ≤ B) : dif64 x y % B = difD x y := by unfold dif64 difD; rw [B_def] at *; split <;> omega
theorem dif64_shr {x y : Nat} (hx : x < B) (hy : y ≤ B) : (dif64 x y : Int).fdiv (2 ^ (min (63 : Int).toNat IntKind.u64.bits)) = ((difB x y : Nat) : Int) := by
  show (dif64 x y : Int).fdiv (2 ^ 63) = _
  rw [Int.fdiv_eq_ediv_of_nonneg _ (by decide)]
  unfold dif64 difB
  rw [B_def] at *
  split <;> omega
theorem dif64_wrap {x a b : Nat} (hx : x < B) (ha : a < B) (hb : b ≤ 1) : IntKind.u64.wrap (IntKind.u64.wrap ((x : Int) - (a : Int)) - (b : Int)) = ((dif64 x (a + b) : Nat) : Int) := by
  rw [IntKind.wrap_u64, IntKind.wrap_u64]; unfold dif64; rw [B_def] at *; split <;> omega
section
variable (En : Ev)
set_option maxHeartbeats 4000000 in
theorem nstep (Lo u Hi v : List Nat) (cap : Nat) (hlen : Lo.length + v.length ≤ 1099511627776) (hn : 2 ≤ v.length) (hul : u.length = v.length + 1) (hum : Lm u) (hvm : Lm v) (hnorm : ∀ t, v[v.length - 1]? = some t → B ≤ 2 * t) (hlt : val u < val v * B) :
    FnG Tryd.prog En 63 [.own 1000 Lo.length (v.length + 1) cap, .one (mag v)] [(1000, (Lo ++ (u ++ Hi)).map lb)] (.one (lb (val u / val v))) [(1000, (Lo ++ (pd (val u % val v) (v.length + 1) ++ Hi)).map lb)] := by
  obtain ⟨v1, hv1⟩ : ∃ x, v[v.length - 1]? = some x := ⟨_, List.getElem?_eq_getElem (by omega)⟩
  obtain ⟨v2, hv2⟩ : ∃ x, v[v.length - 2]? = some x := ⟨_, List.getElem?_eq_getElem (by omega)⟩
  obtain ⟨u0, hu0⟩ : ∃ x, u[v.length]? = some x := ⟨_, List.getElem?_eq_getElem (by omega)⟩
  obtain ⟨u1, hu1⟩ : ∃ x, u[v.length - 1]? = some x := ⟨_, List.getElem?_eq_getElem (by omega)⟩
  obtain ⟨u2, hu2⟩ : ∃ x, u[v.length - 2]? = some x := ⟨_, List.getElem?_eq_getElem (by omega)⟩
  have K := kn_of hn rfl hul hvm hum hv1 hv2 hu0 hu1 hu2 (hnorm _ hv1) hlt
  have bv1 := hvm.get hv1
  have bv2 := hvm.get hv2
  have bu0 := hum.get hu0
  have bu1 := hum.get hu1
  have bu2 := hum.get hu2
  have hv1n := K.norm
  have hBd := B_def
  have hqz : (0 : Int) ≤ ((val u / val v : Nat) : Int) := Int.natCast_nonneg _
  have g0 := getMid (Lo := Lo) (Hi := Hi) hu0
  have g1 := getMid (Lo := Lo) (Hi := Hi) hu1
  have g2 := getMid (Lo := Lo) (Hi := Hi) hu2
  have i0 : v.length < v.length + 1 := by omega
  have i1 : v.length - 1 < v.length + 1 := by omega
  have i2 : v.length - 2 < v.length + 1 := by omega
  have c64 : ∀ x : Nat, x < B → IntKind.u64.wrap (x : Int) = (x : Int) := fun x hx => wu64 (by omega) (by omega)
  have s32 : ∀ x : Nat, x < B → IntKind.u64.wrap ((x : Int) * 2 ^ (min (32 : Int).toNat IntKind.u64.bits)) = ((x * B : Nat) : Int) := fun x hx => by
    show IntKind.u64.wrap ((x : Int) * 2 ^ 32) = _
    rw [B_def] at hx ⊢
    rw [wu64 (by omega) (by omega)]; omega
  have e1 : IntKind.i64.wrap ((v.length : Int) - 1) = ((v.length - 1 : Nat) : Int) := by rw [w64 (by omega) (by omega)]; omega
  have e2 : IntKind.i64.wrap ((v.length : Int) - 2) = ((v.length - 2 : Nat) : Int) := by rw [w64 (by omega) (by omega)]; omega
  have eH := or_shl32 bu0 bu1
  obtain ⟨H, hH⟩ : ∃ H, u0 * B + u1 = H := ⟨_, rfl⟩
  obtain ⟨st1, st2⟩ := K.start
  rw [hH] at eH st1 st2
  have hHlt : H < B * B := by
    rw [← hH]
    have : (u0 + 1) * B ≤ B * B := Nat.mul_le_mul_right _ bu0
    rw [Nat.add_mul] at this
    omega
  have hBB : B * B = 18446744073709551616 := by decide
  have hH64 : H < 18446744073709551616 := by rw [← hBB]; exact hHlt
  have hv10 : (v1 : Int) ≠ 0 := by omega
  have eq : IntKind.u64.wrap ((H : Int).tdiv (v1 : Int)) = ((H / v1 : Nat) : Int) := by
    rw [Int.tdiv_eq_ediv_of_nonneg (Int.natCast_nonneg _), ← Int.natCast_ediv]
    exact wu64 (Int.natCast_nonneg _) (Int.ofNat_lt.2 (Nat.lt_of_le_of_lt (Nat.div_le_self _ _) hH64))
  have er : (H : Int).tmod (v1 : Int) = ((H % v1 : Nat) : Int) := by
    rw [Int.tmod_eq_emod_of_nonneg (Int.natCast_nonneg _), ← Int.natCast_emod]
  refine fn_of_bodyG Tryd.func63 rfl Tryd.ntmps63 rfl ?_
  intro w0 h0 c
  repeat (first | refine WpD.seq ?_ | refine WpD.block ?_)
  refine WpD.reg ?_
  refine RG.S0 (LT.plain rfl (rt_assign rfl)) ?_
  refine RG.nil (by kernel_rfl) ?_
  repeat (first | refine WpD.seq ?_ | refine WpD.block ?_)
  refine WpD.reg ?_
  refine RG.S0 (LT.plain rfl (rt_move rfl)) ?_
  refine RG.S0 (LT.plain rfl (ru_len rfl CSlice.ok)) ?_
  refine RG.S0 (LT.plain rfl (rt_assign rfl)) ?_
  refine RG.nil (by kernel_rfl) ?_
  repeat (first | refine WpD.seq ?_ | refine WpD.block ?_)
  refine WpD.reg ?_
  refine RG.S0 (LT.plain rfl (rt_move rfl)) ?_
  refine RG.S0 (LT.plain rfl (rt_move rfl)) ?_
  refine RG.S0 (LT.plain rfl (ru_index rfl rfl (by assumption))) ?_
  refine RG.S0 (LT.plain rfl (ru_load1 rfl rfl (by assumption))) ?_
  refine RG.S0 (LT.plain rfl (rt_conv_to rfl (fun w => run_convi w CInt.ok CInt.ok _ _) (vint (c64 _ bu0)))) ?_
  refine RG.S0 (LT.plain rfl (rt_bin_to rfl rfl (fun w => run_shli w _ _ _ _ _ _ _ (by first | decide | omega | assumption)) (vint (s32 _ bu0)))) ?_
  refine RG.S0 (LT.plain rfl (rt_move rfl)) ?_
  refine RG.S0 (LT.plain rfl (rt_move rfl)) ?_
  refine RG.S0 (LT.plain rfl (rt_bin_to rfl rfl (fun w => run_subi w _ _ _ _ _ _) (vint e1))) ?_
  refine RG.S0 (LT.plain rfl (ru_index rfl rfl (by assumption))) ?_
  refine RG.S0 (LT.plain rfl (ru_load1 rfl rfl (by assumption))) ?_
  refine RG.S0 (LT.plain rfl (rt_conv_to rfl (fun w => run_convi w CInt.ok CInt.ok _ _) (vint (c64 _ bu1)))) ?_
  refine RG.S0 (LT.plain rfl (rt_bin_to rfl rfl (fun w => run_ori w _ _ _ _ _ _) (vint eH))) ?_
  refine RG.S0 (LT.plain rfl (rt_assign rfl)) ?_
  refine RG.nil (by kernel_rfl) ?_
  repeat (first | refine WpD.seq ?_ | refine WpD.block ?_)
  refine WpD.reg ?_
  refine RG.S0 (LT.plain rfl (rt_move rfl)) ?_
  refine RG.S0 (LT.plain rfl (rt_move rfl)) ?_
  refine RG.S0 (LT.plain rfl (rt_move rfl)) ?_
  refine RG.S0 (LT.plain rfl (rt_bin_to rfl rfl (fun w => run_subi w _ _ _ _ _ _) (vint e1))) ?_
  refine RG.S0 (LT.plain rfl (rc_index rfl rfl (by assumption))) ?_
  refine RG.S0 (LT.plain rfl (rc_load1 rfl rfl)) ?_
  refine RG.S0 (LT.plain rfl (rt_conv_to rfl (fun w => run_convi w CInt.ok CInt.ok _ _) (vint (c64 _ bv1)))) ?_
  refine RG.S0 (LT.plain rfl (rt_bin_to rfl rfl (fun w => run_quoi w _ _ _ _ _ _ (by first | decide | omega | assumption)) (vint eq))) ?_
  refine RG.S0 (LT.plain rfl (rt_move rfl)) ?_
  refine RG.S0 (LT.plain rfl (rt_move rfl)) ?_
  refine RG.S0 (LT.plain rfl (rt_move rfl)) ?_
  refine RG.S0 (LT.plain rfl (rt_bin_to rfl rfl (fun w => run_subi w _ _ _ _ _ _) (vint e1))) ?_
  refine RG.S0 (LT.plain rfl (rc_index rfl rfl (by assumption))) ?_
  refine RG.S0 (LT.plain rfl (rc_load1 rfl rfl)) ?_
  refine RG.S0 (LT.plain rfl (rt_conv_to rfl (fun w => run_convi w CInt.ok CInt.ok _ _) (vint (c64 _ bv1)))) ?_
  refine RG.S0 (LT.plain rfl (rt_bin_to rfl rfl (fun w => run_remi w _ _ _ _ _ _ (by first | decide | omega | assumption)) (vint er))) ?_
  refine RG.S0 (LT.plain rfl (rt_assign rfl)) ?_
  refine RG.S0 (LT.plain rfl (rt_assign rfl)) ?_
  refine RG.nil (by kernel_rfl) ?_
  refine WpD.cut (α := {g : Nat // g < B ∧ val u / val v ≤ g ∧ g ≤ val u / val v + 1}) (fun g => ⟨[(0, .own 1000 Lo.length (v.length + 1) cap), (1, .one (mag v)), (5, .one (ex (.int .i64 (v.length : Int)))), (7, .one (ex (.int .u64 (g.1 : Int))))], [(1000, (Lo ++ (u ++ Hi)).map lb)]⟩) ?_ ?_
  · refine WpD.block ?_
    refine WpD.loop (α := {p : Nat × Nat // p.1 * v1 + p.2 = H ∧ val u / val v ≤ p.1 ∧ p.1 ≤ B + 1 ∧ p.2 < B}) (fun p => ⟨[(0, .own 1000 Lo.length (v.length + 1) cap), (1, .one (mag v)), (5, .one (ex (.int .i64 (v.length : Int)))), (7, .one (ex (.int .u64 (p.1.1 : Int)))), (8, .one (ex (.int .u64 (p.1.2 : Int))))], [(1000, (Lo ++ (u ++ Hi)).map lb)]⟩) (fun p => B - p.1.2) ⟨(H / v1, H % v1), by rw [Nat.mul_comm]; exact Nat.div_add_mod _ _, st1, st2, Nat.lt_trans (Nat.mod_lt _ (by omega)) bv1⟩ ?_ ?_
    ·
      refine Sub.mk ?_ ?_
      · repeat (first | exact trivial | refine ⟨⟨_, rfl, ⟨rfl, rfl⟩⟩, Option.some_ne_none _, ?_⟩ | refine ⟨⟨_, rfl, ⟨rfl, rfl, rfl, rfl⟩⟩, Option.some_ne_none _, ?_⟩ | refine ⟨⟨_, rfl, PLe.refl _⟩, trivial, ?_⟩)
      · repeat (first | exact trivial | refine ⟨⟨_, rfl, PsLe.refl _⟩, ?_⟩)
    rintro ⟨⟨g, r⟩, hg, hq, hgB, hr⟩
    simp only at hg hq hgB hr
    dsimp only
    refine WpD.cut (α := {_x : Unit // B ≤ g ∨ r * B + u2 < g * v2}) (fun _ => ⟨[(0, .own 1000 Lo.length (v.length + 1) cap), (1, .one (mag v)), (5, .one (ex (.int .i64 (v.length : Int)))), (7, .one (ex (.int .u64 (g : Int)))), (8, .one (ex (.int .u64 (r : Int))))], [(1000, (Lo ++ (u ++ Hi)).map lb)]⟩) ?_ ?_
    · have gsh := shr32 g
      by_cases hgb : B ≤ g
      · have q1 : 1 ≤ g / B := by rw [Nat.le_div_iff_mul_le B_pos]; omega
        have t1 : (((g / B : Nat) : Int) != 0) = true := by rw [bne_iff_ne]; omega
        repeat (first | refine WpD.seq ?_ | refine WpD.block ?_)
        refine WpD.reg ?_
        refine RG.S0 (LT.plain rfl (rt_move rfl)) ?_
        refine RG.S0 (LT.plain rfl (rt_bin_to rfl rfl (fun w => run_shri w _ _ _ _ _ _ _ (by first | decide | omega | assumption)) (vint gsh))) ?_
        refine RG.S0 (LT.plain rfl (rt_bin_to rfl rfl (fun w => run_nei w _ _ _ _ _ _) (vbool t1))) ?_
        refine RG.S0 (LT.plain rfl (rt_move rfl)) ?_
        first | refine RG.S0 (LT.run rfl rfl rfl (rt_move rfl)) ?_ | refine RG.S0 (LT.skip rfl rfl rfl) ?_
        first | refine RG.S0 (LT.run rfl rfl rfl (rt_move rfl)) ?_ | refine RG.S0 (LT.skip rfl rfl rfl) ?_
        first | refine RG.S0 (LT.run rfl rfl rfl (rt_move rfl)) ?_ | refine RG.S0 (LT.skip rfl rfl rfl) ?_
        first | refine RG.S0 (LT.run rfl rfl rfl (rt_bin rfl rfl (fun w => run_subi w _ _ _ _ _ _))) ?_ | refine RG.S0 (LT.skip rfl rfl rfl) ?_
        first | refine RG.S0 (LT.run rfl rfl rfl (rc_index rfl rfl (by assumption))) ?_ | refine RG.S0 (LT.skip rfl rfl rfl) ?_
        first | refine RG.S0 (LT.run rfl rfl rfl (rc_load1 rfl rfl)) ?_ | refine RG.S0 (LT.skip rfl rfl rfl) ?_
        first | refine RG.S0 (LT.run rfl rfl rfl (rt_conv rfl (fun w => run_convi w CInt.ok CInt.ok _ _))) ?_ | refine RG.S0 (LT.skip rfl rfl rfl) ?_
        first | refine RG.S0 (LT.run rfl rfl rfl (rt_bin rfl rfl (fun w => run_muli w _ _ _ _ _ _))) ?_ | refine RG.S0 (LT.skip rfl rfl rfl) ?_
        first | refine RG.S0 (LT.run rfl rfl rfl (rt_move rfl)) ?_ | refine RG.S0 (LT.skip rfl rfl rfl) ?_
        first | refine RG.S0 (LT.run rfl rfl rfl (rt_bin rfl rfl (fun w => run_shli w _ _ _ _ _ _ _ (by first | decide | omega | assumption)))) ?_ | refine RG.S0 (LT.skip rfl rfl rfl) ?_
        first | refine RG.S0 (LT.run rfl rfl rfl (rt_move rfl)) ?_ | refine RG.S0 (LT.skip rfl rfl rfl) ?_
        first | refine RG.S0 (LT.run rfl rfl rfl (rt_move rfl)) ?_ | refine RG.S0 (LT.skip rfl rfl rfl) ?_
        first | refine RG.S0 (LT.run rfl rfl rfl (rt_bin rfl rfl (fun w => run_subi w _ _ _ _ _ _))) ?_ | refine RG.S0 (LT.skip rfl rfl rfl) ?_
        first | refine RG.S0 (LT.run rfl rfl rfl (ru_index rfl rfl (by assumption))) ?_ | refine RG.S0 (LT.skip rfl rfl rfl) ?_
        first | refine RG.S0 (LT.run rfl rfl rfl (ru_load1 rfl rfl (by assumption))) ?_ | refine RG.S0 (LT.skip rfl rfl rfl) ?_
        first | refine RG.S0 (LT.run rfl rfl rfl (rt_conv rfl (fun w => run_convi w CInt.ok CInt.ok _ _))) ?_ | refine RG.S0 (LT.skip rfl rfl rfl) ?_
        first | refine RG.S0 (LT.run rfl rfl rfl (rt_bin rfl rfl (fun w => run_ori w _ _ _ _ _ _))) ?_ | refine RG.S0 (LT.skip rfl rfl rfl) ?_
        first | refine RG.S0 (LT.run rfl rfl rfl (rt_bin rfl rfl (fun w => run_gti w _ _ _ _ _ _))) ?_ | refine RG.S0 (LT.skip rfl rfl rfl) ?_
        first | refine RG.S0 (LT.plain rfl (rt_pick_true rfl rfl)) ?_ | refine RG.S0 (LT.plain rfl (rt_pick_false rfl rfl)) ?_
        refine RG.nil (by kernel_rfl) ?_
        repeat (first | refine WpD.seq ?_ | refine WpD.block ?_)
        refine WpD.condT rfl ?_
        repeat (first | refine WpD.seq ?_ | refine WpD.block ?_)
        refine WpD.skip ?_
        refine ⟨⟨(), .inl hgb⟩, ?_⟩
        refine Sub.mk ?_ ?_
        · repeat (first | exact trivial | refine ⟨⟨_, rfl, ⟨rfl, rfl⟩⟩, Option.some_ne_none _, ?_⟩ | refine ⟨⟨_, rfl, ⟨rfl, rfl, rfl, rfl⟩⟩, Option.some_ne_none _, ?_⟩ | refine ⟨⟨_, rfl, PLe.refl _⟩, trivial, ?_⟩)
        · repeat (first | exact trivial | refine ⟨⟨_, rfl, PsLe.refl _⟩, ?_⟩)
      · have q1 : g / B = 0 := Nat.div_eq_of_lt (by omega)
        have t1 : (((g / B : Nat) : Int) != 0) = false := by rw [q1]; rfl
        have hgv : g * v2 ≤ 18446744065119617025 := (mul_bd B_pos (by omega) bv2 B_pos).2
        have em : IntKind.u64.wrap ((g : Int) * (v2 : Int)) = ((g * v2 : Nat) : Int) := by rw [← Int.natCast_mul]; exact wu64 (by omega) (by omega)
        have eo := or_shl32 hr bu2
        by_cases htest : r * B + u2 < g * v2
        · have t2 : decide (((g * v2 : Nat) : Int) > ((r * B + u2 : Nat) : Int)) = true := decide_eq_true (by omega)
          repeat (first | refine WpD.seq ?_ | refine WpD.block ?_)
          refine WpD.reg ?_
          refine RG.S0 (LT.plain rfl (rt_move rfl)) ?_
          refine RG.S0 (LT.plain rfl (rt_bin_to rfl rfl (fun w => run_shri w _ _ _ _ _ _ _ (by first | decide | omega | assumption)) (vint gsh))) ?_
          refine RG.S0 (LT.plain rfl (rt_bin_to rfl rfl (fun w => run_nei w _ _ _ _ _ _) (vbool t1))) ?_
          refine RG.S0 (LT.plain rfl (rt_move rfl)) ?_
          first | refine RG.S0 (LT.run rfl rfl rfl (rt_move rfl)) ?_ | refine RG.S0 (LT.skip rfl rfl rfl) ?_
          first | refine RG.S0 (LT.run rfl rfl rfl (rt_move rfl)) ?_ | refine RG.S0 (LT.skip rfl rfl rfl) ?_
          first | refine RG.S0 (LT.run rfl rfl rfl (rt_move rfl)) ?_ | refine RG.S0 (LT.skip rfl rfl rfl) ?_
          first | refine RG.S0 (LT.run rfl rfl rfl (rt_bin_to rfl rfl (fun w => run_subi w _ _ _ _ _ _) (vint e2))) ?_ | refine RG.S0 (LT.skip rfl rfl rfl) ?_
          first | refine RG.S0 (LT.run rfl rfl rfl (rc_index rfl rfl (by assumption))) ?_ | refine RG.S0 (LT.skip rfl rfl rfl) ?_
          first | refine RG.S0 (LT.run rfl rfl rfl (rc_load1 rfl rfl)) ?_ | refine RG.S0 (LT.skip rfl rfl rfl) ?_
          first | refine RG.S0 (LT.run rfl rfl rfl (rt_conv_to rfl (fun w => run_convi w CInt.ok CInt.ok _ _) (vint (c64 _ bv2)))) ?_ | refine RG.S0 (LT.skip rfl rfl rfl) ?_
          first | refine RG.S0 (LT.run rfl rfl rfl (rt_bin_to rfl rfl (fun w => run_muli w _ _ _ _ _ _) (vint em))) ?_ | refine RG.S0 (LT.skip rfl rfl rfl) ?_
          first | refine RG.S0 (LT.run rfl rfl rfl (rt_move rfl)) ?_ | refine RG.S0 (LT.skip rfl rfl rfl) ?_
          first | refine RG.S0 (LT.run rfl rfl rfl (rt_bin_to rfl rfl (fun w => run_shli w _ _ _ _ _ _ _ (by first | decide | omega | assumption)) (vint (s32 _ hr)))) ?_ | refine RG.S0 (LT.skip rfl rfl rfl) ?_
          first | refine RG.S0 (LT.run rfl rfl rfl (rt_move rfl)) ?_ | refine RG.S0 (LT.skip rfl rfl rfl) ?_
          first | refine RG.S0 (LT.run rfl rfl rfl (rt_move rfl)) ?_ | refine RG.S0 (LT.skip rfl rfl rfl) ?_
          first | refine RG.S0 (LT.run rfl rfl rfl (rt_bin_to rfl rfl (fun w => run_subi w _ _ _ _ _ _) (vint e2))) ?_ | refine RG.S0 (LT.skip rfl rfl rfl) ?_
          first | refine RG.S0 (LT.run rfl rfl rfl (ru_index rfl rfl (by assumption))) ?_ | refine RG.S0 (LT.skip rfl rfl rfl) ?_
          first | refine RG.S0 (LT.run rfl rfl rfl (ru_load1 rfl rfl (by assumption))) ?_ | refine RG.S0 (LT.skip rfl rfl rfl) ?_
          first | refine RG.S0 (LT.run rfl rfl rfl (rt_conv_to rfl (fun w => run_convi w CInt.ok CInt.ok _ _) (vint (c64 _ bu2)))) ?_ | refine RG.S0 (LT.skip rfl rfl rfl) ?_
          first | refine RG.S0 (LT.run rfl rfl rfl (rt_bin_to rfl rfl (fun w => run_ori w _ _ _ _ _ _) (vint eo))) ?_ | refine RG.S0 (LT.skip rfl rfl rfl) ?_
          first | refine RG.S0 (LT.run rfl rfl rfl (rt_bin_to rfl rfl (fun w => run_gti w _ _ _ _ _ _) (vbool t2))) ?_ | refine RG.S0 (LT.skip rfl rfl rfl) ?_
          first | refine RG.S0 (LT.plain rfl (rt_pick_true rfl rfl)) ?_ | refine RG.S0 (LT.plain rfl (rt_pick_false rfl rfl)) ?_
          refine RG.nil (by kernel_rfl) ?_
          repeat (first | refine WpD.seq ?_ | refine WpD.block ?_)
          refine WpD.condT rfl ?_
          repeat (first | refine WpD.seq ?_ | refine WpD.block ?_)
          refine WpD.skip ?_
          refine ⟨⟨(), .inr htest⟩, ?_⟩
          refine Sub.mk ?_ ?_
          · repeat (first | exact trivial | refine ⟨⟨_, rfl, ⟨rfl, rfl⟩⟩, Option.some_ne_none _, ?_⟩ | refine ⟨⟨_, rfl, ⟨rfl, rfl, rfl, rfl⟩⟩, Option.some_ne_none _, ?_⟩ | refine ⟨⟨_, rfl, PLe.refl _⟩, trivial, ?_⟩)
          · repeat (first | exact trivial | refine ⟨⟨_, rfl, PsLe.refl _⟩, ?_⟩)
        · have t2 : decide (((g * v2 : Nat) : Int) > ((r * B + u2 : Nat) : Int)) = false := decide_eq_false (by omega)
          repeat (first | refine WpD.seq ?_ | refine WpD.block ?_)
          refine WpD.reg ?_
          refine RG.S0 (LT.plain rfl (rt_move rfl)) ?_
          refine RG.S0 (LT.plain rfl (rt_bin_to rfl rfl (fun w => run_shri w _ _ _ _ _ _ _ (by first | decide | omega | assumption)) (vint gsh))) ?_
          refine RG.S0 (LT.plain rfl (rt_bin_to rfl rfl (fun w => run_nei w _ _ _ _ _ _) (vbool t1))) ?_
          refine RG.S0 (LT.plain rfl (rt_move rfl)) ?_
          first | refine RG.S0 (LT.run rfl rfl rfl (rt_move rfl)) ?_ | refine RG.S0 (LT.skip rfl rfl rfl) ?_
          first | refine RG.S0 (LT.run rfl rfl rfl (rt_move rfl)) ?_ | refine RG.S0 (LT.skip rfl rfl rfl) ?_
          first | refine RG.S0 (LT.run rfl rfl rfl (rt_move rfl)) ?_ | refine RG.S0 (LT.skip rfl rfl rfl) ?_
          first | refine RG.S0 (LT.run rfl rfl rfl (rt_bin_to rfl rfl (fun w => run_subi w _ _ _ _ _ _) (vint e2))) ?_ | refine RG.S0 (LT.skip rfl rfl rfl) ?_
          first | refine RG.S0 (LT.run rfl rfl rfl (rc_index rfl rfl (by assumption))) ?_ | refine RG.S0 (LT.skip rfl rfl rfl) ?_
          first | refine RG.S0 (LT.run rfl rfl rfl (rc_load1 rfl rfl)) ?_ | refine RG.S0 (LT.skip rfl rfl rfl) ?_
          first | refine RG.S0 (LT.run rfl rfl rfl (rt_conv_to rfl (fun w => run_convi w CInt.ok CInt.ok _ _) (vint (c64 _ bv2)))) ?_ | refine RG.S0 (LT.skip rfl rfl rfl) ?_
          first | refine RG.S0 (LT.run rfl rfl rfl (rt_bin_to rfl rfl (fun w => run_muli w _ _ _ _ _ _) (vint em))) ?_ | refine RG.S0 (LT.skip rfl rfl rfl) ?_
          first | refine RG.S0 (LT.run rfl rfl rfl (rt_move rfl)) ?_ | refine RG.S0 (LT.skip rfl rfl rfl) ?_
          first | refine RG.S0 (LT.run rfl rfl rfl (rt_bin_to rfl rfl (fun w => run_shli w _ _ _ _ _ _ _ (by first | decide | omega | assumption)) (vint (s32 _ hr)))) ?_ | refine RG.S0 (LT.skip rfl rfl rfl) ?_
          first | refine RG.S0 (LT.run rfl rfl rfl (rt_move rfl)) ?_ | refine RG.S0 (LT.skip rfl rfl rfl) ?_
          first | refine RG.S0 (LT.run rfl rfl rfl (rt_move rfl)) ?_ | refine RG.S0 (LT.skip rfl rfl rfl) ?_
          first | refine RG.S0 (LT.run rfl rfl rfl (rt_bin_to rfl rfl (fun w => run_subi w _ _ _ _ _ _) (vint e2))) ?_ | refine RG.S0 (LT.skip rfl rfl rfl) ?_
          first | refine RG.S0 (LT.run rfl rfl rfl (ru_index rfl rfl (by assumption))) ?_ | refine RG.S0 (LT.skip rfl rfl rfl) ?_
          first | refine RG.S0 (LT.run rfl rfl rfl (ru_load1 rfl rfl (by assumption))) ?_ | refine RG.S0 (LT.skip rfl rfl rfl) ?_
          first | refine RG.S0 (LT.run rfl rfl rfl (rt_conv_to rfl (fun w => run_convi w CInt.ok CInt.ok _ _) (vint (c64 _ bu2)))) ?_ | refine RG.S0 (LT.skip rfl rfl rfl) ?_
          first | refine RG.S0 (LT.run rfl rfl rfl (rt_bin_to rfl rfl (fun w => run_ori w _ _ _ _ _ _) (vint eo))) ?_ | refine RG.S0 (LT.skip rfl rfl rfl) ?_
          first | refine RG.S0 (LT.run rfl rfl rfl (rt_bin_to rfl rfl (fun w => run_gti w _ _ _ _ _ _) (vbool t2))) ?_ | refine RG.S0 (LT.skip rfl rfl rfl) ?_
          first | refine RG.S0 (LT.plain rfl (rt_pick_true rfl rfl)) ?_ | refine RG.S0 (LT.plain rfl (rt_pick_false rfl rfl)) ?_
          refine RG.nil (by kernel_rfl) ?_
          repeat (first | refine WpD.seq ?_ | refine WpD.block ?_)
          refine WpD.condF rfl ?_
          repeat (first | refine WpD.seq ?_ | refine WpD.block ?_)
          refine WpD.exit ?_
          refine ⟨⟨g, by omega, hq, K.up (by rw [hH]; exact hg) (by omega) (by omega)⟩, ?_⟩
          refine Sub.mk ?_ ?_
          · repeat (first | exact trivial | refine ⟨⟨_, rfl, ⟨rfl, rfl⟩⟩, Option.some_ne_none _, ?_⟩ | refine ⟨⟨_, rfl, ⟨rfl, rfl, rfl, rfl⟩⟩, Option.some_ne_none _, ?_⟩ | refine ⟨⟨_, rfl, PLe.refl _⟩, trivial, ?_⟩)
          · repeat (first | exact trivial | refine ⟨⟨_, rfl, PsLe.refl _⟩, ?_⟩)
    · rintro ⟨⟨⟩, htest⟩
      have hdn := K.down (by rw [hH]; exact hg) htest
      have e5 : IntKind.u64.wrap ((g : Int) - 1) = ((g - 1 : Nat) : Int) := by rw [wu64 (by omega) (by omega)]; omega
      have e6 : IntKind.u64.wrap ((r : Int) + (v1 : Int)) = ((r + v1 : Nat) : Int) := by rw [wu64 (by omega) (by omega)]; omega
      have hg' : (g - 1) * v1 + (r + v1) = H := by
        have : g * v1 = (g - 1) * v1 + v1 := by rw [← Nat.succ_mul]; congr 1; omega
        omega
      have rsh := shr32 (r + v1)
      by_cases hrb : B ≤ r + v1
      · have q1 : 1 ≤ (r + v1) / B := by rw [Nat.le_div_iff_mul_le B_pos]; omega
        have t1 : ((((r + v1) / B : Nat) : Int) != 0) = true := by rw [bne_iff_ne]; omega
        have hgB' : g - 1 < B := by
          rcases Nat.lt_or_ge (g - 1) B with h | h
          · exact h
          · exfalso
            have h0 := K.top
            have h1 : B * v1 ≤ (g - 1) * v1 := Nat.mul_le_mul_right _ h
            have h2 : u0 * B ≤ v1 * B := Nat.mul_le_mul_right _ h0
            rw [Nat.mul_comm] at h1
            omega
        have hup : g - 1 ≤ val u / val v + 1 := by
          refine K.up (r := r + v1) (by rw [hH]; exact hg') hgB' ?_
          have h1 := (mul_bd B_pos hgB' bv2 B_pos).2
          have h2 : B * B ≤ (r + v1) * B := Nat.mul_le_mul_right _ hrb
          omega
        repeat (first | refine WpD.seq ?_ | refine WpD.block ?_)
        refine WpD.reg ?_
        refine RG.S0 (LT.plain rfl (rt_move rfl)) ?_
        refine RG.S0 (LT.plain rfl (rt_bin_to rfl rfl (fun w => run_subi w _ _ _ _ _ _) (vint e5))) ?_
        refine RG.S0 (LT.plain rfl (rt_assign rfl)) ?_
        refine RG.nil (by kernel_rfl) ?_
        repeat (first | refine WpD.seq ?_ | refine WpD.block ?_)
        refine WpD.reg ?_
        refine RG.S0 (LT.plain rfl (rt_move rfl)) ?_
        refine RG.S0 (LT.plain rfl (rt_move rfl)) ?_
        refine RG.S0 (LT.plain rfl (rt_move rfl)) ?_
        refine RG.S0 (LT.plain rfl (rt_bin_to rfl rfl (fun w => run_subi w _ _ _ _ _ _) (vint e1))) ?_
        refine RG.S0 (LT.plain rfl (rc_index rfl rfl (by assumption))) ?_
        refine RG.S0 (LT.plain rfl (rc_load1 rfl rfl)) ?_
        refine RG.S0 (LT.plain rfl (rt_conv_to rfl (fun w => run_convi w CInt.ok CInt.ok _ _) (vint (c64 _ bv1)))) ?_
        refine RG.S0 (LT.plain rfl (rt_bin_to rfl rfl (fun w => run_addi w _ _ _ _ _ _) (vint e6))) ?_
        refine RG.S0 (LT.plain rfl (rt_assign rfl)) ?_
        refine RG.nil (by kernel_rfl) ?_
        repeat (first | refine WpD.seq ?_ | refine WpD.block ?_)
        refine WpD.reg ?_
        refine RG.S0 (LT.plain rfl (rt_move rfl)) ?_
        refine RG.S0 (LT.plain rfl (rt_bin_to rfl rfl (fun w => run_shri w _ _ _ _ _ _ _ (by first | decide | omega | assumption)) (vint rsh))) ?_
        refine RG.S0 (LT.plain rfl (rt_bin_to rfl rfl (fun w => run_nei w _ _ _ _ _ _) (vbool t1))) ?_
        refine RG.nil (by kernel_rfl) ?_
        repeat (first | refine WpD.seq ?_ | refine WpD.block ?_)
        refine WpD.condT rfl ?_
        repeat (first | refine WpD.seq ?_ | refine WpD.block ?_)
        refine WpD.exit ?_
        refine ⟨⟨g - 1, hgB', by omega, hup⟩, ?_⟩
        refine Sub.mk ?_ ?_
        · repeat (first | exact trivial | refine ⟨⟨_, rfl, ⟨rfl, rfl⟩⟩, Option.some_ne_none _, ?_⟩ | refine ⟨⟨_, rfl, ⟨rfl, rfl, rfl, rfl⟩⟩, Option.some_ne_none _, ?_⟩ | refine ⟨⟨_, rfl, PLe.refl _⟩, trivial, ?_⟩)
        · repeat (first | exact trivial | refine ⟨⟨_, rfl, PsLe.refl _⟩, ?_⟩)
      · have q1 : (r + v1) / B = 0 := Nat.div_eq_of_lt (by omega)
        have t1 : ((((r + v1) / B : Nat) : Int) != 0) = false := by rw [q1]; rfl
        repeat (first | refine WpD.seq ?_ | refine WpD.block ?_)
        refine WpD.reg ?_
        refine RG.S0 (LT.plain rfl (rt_move rfl)) ?_
        refine RG.S0 (LT.plain rfl (rt_bin_to rfl rfl (fun w => run_subi w _ _ _ _ _ _) (vint e5))) ?_
        refine RG.S0 (LT.plain rfl (rt_assign rfl)) ?_
        refine RG.nil (by kernel_rfl) ?_
        repeat (first | refine WpD.seq ?_ | refine WpD.block ?_)
        refine WpD.reg ?_
        refine RG.S0 (LT.plain rfl (rt_move rfl)) ?_
        refine RG.S0 (LT.plain rfl (rt_move rfl)) ?_
        refine RG.S0 (LT.plain rfl (rt_move rfl)) ?_
        refine RG.S0 (LT.plain rfl (rt_bin_to rfl rfl (fun w => run_subi w _ _ _ _ _ _) (vint e1))) ?_
        refine RG.S0 (LT.plain rfl (rc_index rfl rfl (by assumption))) ?_
        refine RG.S0 (LT.plain rfl (rc_load1 rfl rfl)) ?_
        refine RG.S0 (LT.plain rfl (rt_conv_to rfl (fun w => run_convi w CInt.ok CInt.ok _ _) (vint (c64 _ bv1)))) ?_
        refine RG.S0 (LT.plain rfl (rt_bin_to rfl rfl (fun w => run_addi w _ _ _ _ _ _) (vint e6))) ?_
        refine RG.S0 (LT.plain rfl (rt_assign rfl)) ?_
        refine RG.nil (by kernel_rfl) ?_
        repeat (first | refine WpD.seq ?_ | refine WpD.block ?_)
        refine WpD.reg ?_
        refine RG.S0 (LT.plain rfl (rt_move rfl)) ?_
        refine RG.S0 (LT.plain rfl (rt_bin_to rfl rfl (fun w => run_shri w _ _ _ _ _ _ _ (by first | decide | omega | assumption)) (vint rsh))) ?_
        refine RG.S0 (LT.plain rfl (rt_bin_to rfl rfl (fun w => run_nei w _ _ _ _ _ _) (vbool t1))) ?_
        refine RG.nil (by kernel_rfl) ?_
        repeat (first | refine WpD.seq ?_ | refine WpD.block ?_)
        refine WpD.condF rfl ?_
        repeat (first | refine WpD.seq ?_ | refine WpD.block ?_)
        refine WpD.skip ?_
        refine ⟨⟨(g - 1, r + v1), hg', by simp only; omega, by simp only; omega, by simp only; omega⟩, ?_, by simp only; omega⟩
        refine Sub.mk ?_ ?_
        · repeat (first | exact trivial | refine ⟨⟨_, rfl, ⟨rfl, rfl⟩⟩, Option.some_ne_none _, ?_⟩ | refine ⟨⟨_, rfl, ⟨rfl, rfl, rfl, rfl⟩⟩, Option.some_ne_none _, ?_⟩ | refine ⟨⟨_, rfl, PLe.refl _⟩, trivial, ?_⟩)
        · repeat (first | exact trivial | refine ⟨⟨_, rfl, PsLe.refl _⟩, ?_⟩)
  · rintro ⟨g, hgB, hq1, hq2⟩
    dsimp only
    have hVpos := K.Vpos
    repeat (first | refine WpD.seq ?_ | refine WpD.block ?_)
    refine WpD.reg ?_
    refine RG.S0 (LT.plain rfl (rt_assign rfl)) ?_
    refine RG.S0 (LT.plain rfl (rt_assign rfl)) ?_
    refine RG.nil (by kernel_rfl) ?_
    repeat (first | refine WpD.seq ?_ | refine WpD.block ?_)
    refine WpD.reg ?_
    refine RG.S0 (LT.plain rfl (rt_move rfl)) ?_
    refine RG.S0 (LT.plain rfl (rt_move rfl)) ?_
    refine RG.nil (by kernel_rfl) ?_
    repeat (first | refine WpD.seq ?_ | refine WpD.block ?_)
    refine WpD.loop (α := {p : Nat × List Nat × Nat × Nat // p.1 ≤ v.length ∧ MsInv u v g p.1 p.2.1 p.2.2.1 p.2.2.2}) (fun p => ⟨[(0, .own 1000 Lo.length (v.length + 1) cap), (1, .one (mag v)), (5, .one (ex (.int .i64 (v.length : Int)))), (7, .one (ex (.int .u64 (g : Int)))), (9, .one (ex (.int .u64 (p.1.2.2.1 : Int)))), (10, .one (ex (.int .u64 (p.1.2.2.2 : Int)))), (82, .one (ex (.int .i64 (v.length : Int)))), (83, .one (ex (.int .i64 (p.1.1 : Int))))], [(1000, (Lo ++ ((p.1.2.1 ++ u.drop p.1.1) ++ Hi)).map lb)]⟩) (fun p => v.length - p.1.1) ⟨(0, [], 0, 0), Nat.zero_le _, MsInv.start u v g⟩ ?_ ?_
    ·
      refine Sub.mk ?_ ?_
      · repeat (first | exact trivial | refine ⟨⟨_, rfl, ⟨rfl, rfl⟩⟩, Option.some_ne_none _, ?_⟩ | refine ⟨⟨_, rfl, ⟨rfl, rfl, rfl, rfl⟩⟩, Option.some_ne_none _, ?_⟩ | refine ⟨⟨_, rfl, PLe.refl _⟩, trivial, ?_⟩)
      · repeat (first | exact trivial | refine ⟨⟨_, rfl, PsLe.refl _⟩, ?_⟩)
    rintro ⟨⟨k, N, cc, b⟩, hk, hM⟩
    simp only at hk hM
    dsimp only
    obtain ⟨hNl, hNm, hcB, hb1, _⟩ := id hM
    by_cases hkn : k < v.length
    · obtain ⟨x, hx⟩ : ∃ x, u[k]? = some x := ⟨_, List.getElem?_eq_getElem (by omega)⟩
      obtain ⟨y, hy⟩ : ∃ y, v[k]? = some y := ⟨_, List.getElem?_eq_getElem (by omega)⟩
      have hxB := hum.get hx
      have hyB := hvm.get hy
      obtain ⟨hM', hmb⟩ := hM.step hgB hum hvm hx hy
      obtain ⟨t, ht⟩ : ∃ t, cc + g * y = t := ⟨_, rfl⟩
      rw [ht] at hM' hmb
      have hmul := (mul_bd B_pos hgB hyB B_pos).2
      have hdr : u.drop k = x :: u.drop (k + 1) := by rw [List.drop_eq_getElem_cons (by omega : k < u.length), (List.getElem?_eq_some_iff.1 hx).2]
      have hMx : (N ++ u.drop k)[k]? = some x := by rw [List.getElem?_append_right (by omega), hNl, Nat.sub_self, hdr]; rfl
      have hget := getMid (Lo := Lo) (Hi := Hi) hMx
      have hkl : k < v.length + 1 := by omega
      have hsetl := lenMid (Lo := Lo) (Hi := Hi) (List.getElem?_eq_some_iff.1 hMx).1
      have htB : t % B < B := Nat.mod_lt _ B_pos
      have b1 : decide ((k : Int) < (v.length : Int)) = true := decide_eq_true (by omega)
      have e7 : IntKind.u64.wrap ((g : Int) * (y : Int)) = ((g * y : Nat) : Int) := by rw [← Int.natCast_mul]; exact wu64 (by omega) (by omega)
      have e8 : IntKind.u64.wrap ((cc : Int) + ((g * y : Nat) : Int)) = (t : Int) := by rw [wu64 (by omega) (by omega), ← ht]; omega
      have hset : ((Lo ++ ((N ++ u.drop k) ++ Hi)).map lb).set (Lo.length + k) (ex (.int .u32 ((difD x (t % B + b) : Nat) : Int))) = (Lo ++ (((N ++ [difD x (t % B + b)]) ++ u.drop (k + 1)) ++ Hi)).map lb := by
        rw [hdr]; exact setMid Lo N _ Hi x _ hNl
      have e14 : IntKind.u32.wrap ((dif64 x (t % B + b) : Nat) : Int) = ((difD x (t % B + b) : Nat) : Int) := by rw [u32w, dif64_mod hxB (by omega)]
      have e13 : IntKind.i64.wrap ((k : Int) + 1) = ((k + 1 : Nat) : Int) := by rw [w64 (by omega) (by omega)]; omega
      repeat (first | refine WpD.seq ?_ | refine WpD.block ?_)
      refine WpD.reg ?_
      refine RG.S0 (LT.plain rfl (rt_bin_to rfl rfl (fun w => run_lti w _ _ _ _ _ _) (vbool b1))) ?_
      refine RG.nil (by kernel_rfl) ?_
      repeat (first | refine WpD.seq ?_ | refine WpD.block ?_)
      refine WpD.condT rfl ?_
      repeat (first | refine WpD.seq ?_ | refine WpD.block ?_)
      refine WpD.skip ?_
      repeat (first | refine WpD.seq ?_ | refine WpD.block ?_)
      refine WpD.reg ?_
      refine RG.S0 (LT.plain rfl (rt_move rfl)) ?_
      refine RG.S0 (LT.plain rfl (rt_assign rfl)) ?_
      refine RG.nil (by kernel_rfl) ?_
      repeat (first | refine WpD.seq ?_ | refine WpD.block ?_)
      refine WpD.reg ?_
      refine RG.S0 (LT.plain rfl (rt_move rfl)) ?_
      refine RG.S0 (LT.plain rfl (rt_move rfl)) ?_
      refine RG.S0 (LT.plain rfl (rt_move rfl)) ?_
      refine RG.S0 (LT.plain rfl (rt_move rfl)) ?_
      refine RG.S0 (LT.plain rfl (rc_index rfl rfl (by assumption))) ?_
      refine RG.S0 (LT.plain rfl (rc_load1 rfl rfl)) ?_
      refine RG.S0 (LT.plain rfl (rt_conv_to rfl (fun w => run_convi w CInt.ok CInt.ok _ _) (vint (c64 _ hyB)))) ?_
      refine RG.S0 (LT.plain rfl (rt_bin_to rfl rfl (fun w => run_muli w _ _ _ _ _ _) (vint e7))) ?_
      refine RG.S0 (LT.plain rfl (rt_bin_to rfl rfl (fun w => run_addi w _ _ _ _ _ _) (vint e8))) ?_
      refine RG.S0 (LT.plain rfl (rt_assign rfl)) ?_
      refine RG.nil (by kernel_rfl) ?_
      repeat (first | refine WpD.seq ?_ | refine WpD.block ?_)
      refine WpD.reg ?_
      refine RG.S0 (LT.plain rfl (rt_move rfl)) ?_
      refine RG.S0 (LT.plain rfl (rt_move rfl)) ?_
      refine RG.S0 (LT.plain rfl (ru_index rfl rfl (by assumption))) ?_
      refine RG.S0 (LT.plain rfl (ru_load1 rfl rfl (by assumption))) ?_
      refine RG.S0 (LT.plain rfl (rt_conv_to rfl (fun w => run_convi w CInt.ok CInt.ok _ _) (vint (c64 _ hxB)))) ?_
      refine RG.S0 (LT.plain rfl (rt_move rfl)) ?_
      refine RG.S0 (LT.plain rfl (rt_conv_to rfl (fun w => run_convi w CInt.ok CInt.ok _ _) (vint (u32w _)))) ?_
      refine RG.S0 (LT.plain rfl (rt_conv_to rfl (fun w => run_convi w CInt.ok CInt.ok _ _) (vint (c64 _ htB)))) ?_
      refine RG.S0 (LT.plain rfl (rt_bin rfl rfl (fun w => run_subi w _ _ _ _ _ _))) ?_
      refine RG.S0 (LT.plain rfl (rt_move rfl)) ?_
      refine RG.S0 (LT.plain rfl (rt_bin_to rfl rfl (fun w => run_subi w _ _ _ _ _ _) (vint (dif64_wrap hxB htB hb1)))) ?_
      refine RG.S0 (LT.plain rfl (rt_assign rfl)) ?_
      refine RG.nil (by kernel_rfl) ?_
      repeat (first | refine WpD.seq ?_ | refine WpD.block ?_)
      refine WpD.reg ?_
      refine RG.S0 (LT.plain rfl (rt_move rfl)) ?_
      refine RG.S0 (LT.plain rfl (rt_move rfl)) ?_
      refine RG.S0 (LT.plain rfl (rt_move rfl)) ?_
      refine RG.S0 (LT.plain rfl (rt_conv_to rfl (fun w => run_convi w CInt.ok CInt.ok _ _) (vint e14))) ?_
      refine RG.S0 (LT.plain rfl (ru_index rfl rfl (by assumption))) ?_
      refine RG.N1 (LT.plain rfl (ru_set1 rfl rfl rfl (by assumption) (by assumption))) ?_
      refine RG.nil (by kernel_rfl) ?_
      repeat (first | refine WpD.seq ?_ | refine WpD.block ?_)
      refine WpD.reg ?_
      refine RG.S0 (LT.plain rfl (rt_move rfl)) ?_
      refine RG.S0 (LT.plain rfl (rt_bin_to rfl rfl (fun w => run_shri w _ _ _ _ _ _ _ (by first | decide | omega | assumption)) (vint (shr32 _)))) ?_
      refine RG.S0 (LT.plain rfl (rt_assign rfl)) ?_
      refine RG.nil (by kernel_rfl) ?_
      repeat (first | refine WpD.seq ?_ | refine WpD.block ?_)
      refine WpD.reg ?_
      refine RG.S0 (LT.plain rfl (rt_move rfl)) ?_
      refine RG.S0 (LT.plain rfl (rt_bin_to rfl rfl (fun w => run_shri w _ _ _ _ _ _ _ (by first | decide | omega | assumption)) (vint (dif64_shr hxB (by omega))))) ?_
      refine RG.S0 (LT.plain rfl (rt_assign rfl)) ?_
      refine RG.nil (by kernel_rfl) ?_
      repeat (first | refine WpD.seq ?_ | refine WpD.block ?_)
      refine WpD.reg ?_
      refine RG.S0 (LT.plain rfl (rt_bin_to rfl rfl (fun w => run_addi w _ _ _ _ _ _) (vint e13))) ?_
      refine RG.S0 (LT.plain rfl (rt_move rfl)) ?_
      refine RG.nil (by kernel_rfl) ?_
      refine ⟨⟨(k + 1, N ++ [difD x (t % B + b)], t / B, difB x (t % B + b)), hkn, hM'⟩, ?_, by simp only; omega⟩
      refine Sub.mk ?_ ?_
      · repeat (first | exact trivial | refine ⟨⟨_, rfl, ⟨rfl, rfl⟩⟩, Option.some_ne_none _, ?_⟩ | refine ⟨⟨_, rfl, ⟨rfl, rfl, rfl, rfl⟩⟩, Option.some_ne_none _, ?_⟩ | refine ⟨⟨_, rfl, PLe.refl _⟩, trivial, ?_⟩)
      · repeat (first | exact trivial | refine ⟨⟨_, rfl, PsLe.refl _⟩, ?_⟩)
    · have b1 : decide ((k : Int) < (v.length : Int)) = false := decide_eq_false (by omega)
      have hkv : k = v.length := by omega
      subst hkv
      have hdr : u.drop v.length = u0 :: [] := by
        rw [List.drop_eq_getElem_cons (by omega : v.length < u.length), (List.getElem?_eq_some_iff.1 hu0).2, List.drop_eq_nil_of_le (by omega)]
      have hMx : (N ++ u.drop v.length)[v.length]? = some u0 := by rw [List.getElem?_append_right (by omega), hNl, Nat.sub_self, hdr]; rfl
      have hget := getMid (Lo := Lo) (Hi := Hi) hMx
      have hsetl := lenMid (Lo := Lo) (Hi := Hi) (List.getElem?_eq_some_iff.1 hMx).1
      have e8 := dif64_wrap bu0 hcB hb1
      have e14 : IntKind.u32.wrap ((dif64 u0 (cc + b) : Nat) : Int) = ((difD u0 (cc + b) : Nat) : Int) := by rw [u32w, dif64_mod bu0 (by omega)]
      have hset : ((Lo ++ ((N ++ u.drop v.length) ++ Hi)).map lb).set (Lo.length + v.length) (ex (.int .u32 ((difD u0 (cc + b) : Nat) : Int))) = (Lo ++ (((N ++ [difD u0 (cc + b)]) ++ []) ++ Hi)).map lb := by
        rw [hdr]; exact setMid Lo N [] Hi u0 _ hNl
      have hsh := dif64_shr bu0 (show cc + b ≤ B by omega)
      repeat (first | refine WpD.seq ?_ | refine WpD.block ?_)
      refine WpD.reg ?_
      refine RG.S0 (LT.plain rfl (rt_bin_to rfl rfl (fun w => run_lti w _ _ _ _ _ _) (vbool b1))) ?_
      refine RG.nil (by kernel_rfl) ?_
      repeat (first | refine WpD.seq ?_ | refine WpD.block ?_)
      refine WpD.condF rfl ?_
      repeat (first | refine WpD.seq ?_ | refine WpD.block ?_)
      refine WpD.exit ?_
      repeat (first | refine WpD.seq ?_ | refine WpD.block ?_)
      refine WpD.reg ?_
      refine RG.S0 (LT.plain rfl (rt_move rfl)) ?_
      refine RG.S0 (LT.plain rfl (rt_move rfl)) ?_
      refine RG.S0 (LT.plain rfl (ru_index rfl rfl (by assumption))) ?_
      refine RG.S0 (LT.plain rfl (ru_load1 rfl rfl (by assumption))) ?_
      refine RG.S0 (LT.plain rfl (rt_conv_to rfl (fun w => run_convi w CInt.ok CInt.ok _ _) (vint (c64 _ bu0)))) ?_
      refine RG.S0 (LT.plain rfl (rt_move rfl)) ?_
      refine RG.S0 (LT.plain rfl (rt_bin rfl rfl (fun w => run_subi w _ _ _ _ _ _))) ?_
      refine RG.S0 (LT.plain rfl (rt_move rfl)) ?_
      refine RG.S0 (LT.plain rfl (rt_bin_to rfl rfl (fun w => run_subi w _ _ _ _ _ _) (vint e8))) ?_
      refine RG.S0 (LT.plain rfl (rt_assign rfl)) ?_
      refine RG.nil (by kernel_rfl) ?_
      repeat (first | refine WpD.seq ?_ | refine WpD.block ?_)
      refine WpD.reg ?_
      refine RG.S0 (LT.plain rfl (rt_move rfl)) ?_
      refine RG.S0 (LT.plain rfl (rt_move rfl)) ?_
      refine RG.S0 (LT.plain rfl (rt_move rfl)) ?_
      refine RG.S0 (LT.plain rfl (rt_conv_to rfl (fun w => run_convi w CInt.ok CInt.ok _ _) (vint e14))) ?_
      refine RG.S0 (LT.plain rfl (ru_index rfl rfl (by assumption))) ?_
      refine RG.N1 (LT.plain rfl (ru_set1 rfl rfl rfl (by assumption) (by assumption))) ?_
      refine RG.nil (by kernel_rfl) ?_
      by_cases hcb : cc + b ≤ u0
      · obtain ⟨r1, r2⟩ := hM.right rfl hul hu0 hum hq1 hVpos hcb
        have hdd : difD u0 (cc + b) = u0 - (cc + b) := by unfold difD; rw [if_neg (by omega)]
        have hdb : difB u0 (cc + b) = 0 := by unfold difB; rw [if_neg (by omega)]
        have t1 : (((difB u0 (cc + b) : Nat) : Int) == 0) = true := by rw [hdb]; rfl
        have hgw : ((g % B : Nat) : Int) = ((val u / val v : Nat) : Int) := by rw [Nat.mod_eq_of_lt hgB, r1]
        rw [hdd, r2, List.append_nil]
        repeat (first | refine WpD.seq ?_ | refine WpD.block ?_)
        refine WpD.reg ?_
        refine RG.S0 (LT.plain rfl (rt_move rfl)) ?_
        refine RG.S0 (LT.plain rfl (rt_bin_to rfl rfl (fun w => run_shri w _ _ _ _ _ _ _ (by first | decide | omega | assumption)) (vint hsh))) ?_
        refine RG.S0 (LT.plain rfl (rt_bin_to rfl rfl (fun w => run_eqi w _ _ _ _ _ _) (vbool t1))) ?_
        refine RG.nil (by kernel_rfl) ?_
        repeat (first | refine WpD.seq ?_ | refine WpD.block ?_)
        refine WpD.condT rfl ?_
        repeat (first | refine WpD.seq ?_ | refine WpD.block ?_)
        refine WpD.reg ?_
        refine RG.S0 (LT.plain rfl (rt_move rfl)) ?_
        refine RG.S0 (LT.plain rfl (rt_conv_to rfl (fun w => run_convi w CInt.ok CInt.ok _ _) (vint ((u32w _).trans hgw)))) ?_
        refine RG.S0 (LT.plain rfl (rt_assign rfl)) ?_
        refine RG.nil (by kernel_rfl) ?_
        repeat (first | refine WpD.seq ?_ | refine WpD.block ?_)
        refine WpD.ret ?_
        exact retG1 rfl rfl (PLe.refl _) trivial ⟨⟨_, rfl, PsLe.refl _⟩, trivial⟩
      · obtain ⟨r1, r2, r3⟩ := hM.wrong rfl hul hu0 hvm hq2 hVpos (by omega)
        have hdd : difD u0 (cc + b) = B - 1 := by unfold difD; rw [if_pos (by omega)]; omega
        have hdb : difB u0 (cc + b) = 1 := by unfold difB; rw [if_pos (by omega)]
        have t1 : (((difB u0 (cc + b) : Nat) : Int) == 0) = false := by rw [hdb]; rfl
        rw [hdd, List.append_nil]
        repeat (first | refine WpD.seq ?_ | refine WpD.block ?_)
        refine WpD.reg ?_
        refine RG.S0 (LT.plain rfl (rt_move rfl)) ?_
        refine RG.S0 (LT.plain rfl (rt_bin_to rfl rfl (fun w => run_shri w _ _ _ _ _ _ _ (by first | decide | omega | assumption)) (vint hsh))) ?_
        refine RG.S0 (LT.plain rfl (rt_bin_to rfl rfl (fun w => run_eqi w _ _ _ _ _ _) (vbool t1))) ?_
        refine RG.nil (by kernel_rfl) ?_
        repeat (first | refine WpD.seq ?_ | refine WpD.block ?_)
        refine WpD.condF rfl ?_
        repeat (first | refine WpD.seq ?_ | refine WpD.block ?_)
        refine WpD.skip ?_
        repeat (first | refine WpD.seq ?_ | refine WpD.block ?_)
        refine WpD.reg ?_
        refine RG.S0 (LT.plain rfl (rt_assign rfl)) ?_
        refine RG.nil (by kernel_rfl) ?_
        repeat (first | refine WpD.seq ?_ | refine WpD.block ?_)
        refine WpD.reg ?_
        refine RG.S0 (LT.plain rfl (rt_move rfl)) ?_
        refine RG.S0 (LT.plain rfl (rt_move rfl)) ?_
        refine RG.nil (by kernel_rfl) ?_
        repeat (first | refine WpD.seq ?_ | refine WpD.block ?_)
        refine WpD.loop (α := {p : Nat × List Nat × Nat // p.1 ≤ v.length ∧ SumInv N v p.1 p.2.1 p.2.2}) (fun p => ⟨[(0, .own 1000 Lo.length (v.length + 1) cap), (1, .one (mag v)), (5, .one (ex (.int .i64 (v.length : Int)))), (7, .one (ex (.int .u64 (g : Int)))), (9, .one (ex (.int .u64 (p.1.2.2 : Int)))), (135, .one (ex (.int .i64 (v.length : Int)))), (136, .one (ex (.int .i64 (p.1.1 : Int))))], [(1000, (Lo ++ ((p.1.2.1 ++ (N.drop p.1.1 ++ [B - 1])) ++ Hi)).map lb)]⟩) (fun p => v.length - p.1.1) ⟨(0, [], 0), Nat.zero_le _, SumInv.start N v⟩ ?_ ?_
        ·
          refine Sub.mk ?_ ?_
          · repeat (first | exact trivial | refine ⟨⟨_, rfl, ⟨rfl, rfl⟩⟩, Option.some_ne_none _, ?_⟩ | refine ⟨⟨_, rfl, ⟨rfl, rfl, rfl, rfl⟩⟩, Option.some_ne_none _, ?_⟩ | refine ⟨⟨_, rfl, PLe.refl _⟩, trivial, ?_⟩)
          · repeat (first | exact trivial | refine ⟨⟨_, rfl, PsLe.refl _⟩, ?_⟩)
        rintro ⟨⟨k, A, ca⟩, hk2, hS⟩
        simp only at hk2 hS
        dsimp only
        obtain ⟨hAl, hAm, hca, _⟩ := id hS
        by_cases hkn2 : k < v.length
        · obtain ⟨x, hx⟩ : ∃ x, N[k]? = some x := ⟨_, List.getElem?_eq_getElem (by omega)⟩
          obtain ⟨y, hy⟩ : ∃ y, v[k]? = some y := ⟨_, List.getElem?_eq_getElem (by omega)⟩
          have hxB := hNm.get hx
          have hyB := hvm.get hy
          have hS' := SumInv.step hNm hvm hS
          rw [hx, hy, Option.getD_some, Option.getD_some] at hS'
          have hdr2 : N.drop k = x :: N.drop (k + 1) := by rw [List.drop_eq_getElem_cons (by omega : k < N.length), (List.getElem?_eq_some_iff.1 hx).2]
          have hMx2 : (A ++ (N.drop k ++ [B - 1]))[k]? = some x := by rw [List.getElem?_append_right (by omega), hAl, Nat.sub_self, hdr2]; rfl
          have hget2 := getMid (Lo := Lo) (Hi := Hi) hMx2
          have hkl : k < v.length + 1 := by omega
          have hsetl2 := lenMid (Lo := Lo) (Hi := Hi) (List.getElem?_eq_some_iff.1 hMx2).1
          have b2 : decide ((k : Int) < (v.length : Int)) = true := decide_eq_true (by omega)
          have e11 : IntKind.u64.wrap ((x : Int) + (y : Int)) = (x : Int) + (y : Int) := wu64 (by omega) (by omega)
          have e12 : IntKind.u64.wrap ((ca : Int) + ((x : Int) + (y : Int))) = ((ca + x + y : Nat) : Int) := by rw [wu64 (by omega) (by omega)]; omega
          have hset2 : ((Lo ++ ((A ++ (N.drop k ++ [B - 1])) ++ Hi)).map lb).set (Lo.length + k) (ex (.int .u32 (((ca + x + y) % B : Nat) : Int))) = (Lo ++ (((A ++ [(ca + x + y) % B]) ++ (N.drop (k + 1) ++ [B - 1])) ++ Hi)).map lb := by
            rw [hdr2]; exact setMid Lo A (N.drop (k + 1) ++ [B - 1]) Hi x _ hAl
          have e13 : IntKind.i64.wrap ((k : Int) + 1) = ((k + 1 : Nat) : Int) := by rw [w64 (by omega) (by omega)]; omega
          repeat (first | refine WpD.seq ?_ | refine WpD.block ?_)
          refine WpD.reg ?_
          refine RG.S0 (LT.plain rfl (rt_bin_to rfl rfl (fun w => run_lti w _ _ _ _ _ _) (vbool b2))) ?_
          refine RG.nil (by kernel_rfl) ?_
          repeat (first | refine WpD.seq ?_ | refine WpD.block ?_)
          refine WpD.condT rfl ?_
          repeat (first | refine WpD.seq ?_ | refine WpD.block ?_)
          refine WpD.skip ?_
          repeat (first | refine WpD.seq ?_ | refine WpD.block ?_)
          refine WpD.reg ?_
          refine RG.S0 (LT.plain rfl (rt_move rfl)) ?_
          refine RG.S0 (LT.plain rfl (rt_assign rfl)) ?_
          refine RG.nil (by kernel_rfl) ?_
          repeat (first | refine WpD.seq ?_ | refine WpD.block ?_)
          refine WpD.reg ?_
          refine RG.S0 (LT.plain rfl (rt_move rfl)) ?_
          refine RG.S0 (LT.plain rfl (rt_move rfl)) ?_
          refine RG.S0 (LT.plain rfl (rt_move rfl)) ?_
          refine RG.S0 (LT.plain rfl (ru_index rfl rfl (by assumption))) ?_
          refine RG.S0 (LT.plain rfl (ru_load1 rfl rfl (by assumption))) ?_
          refine RG.S0 (LT.plain rfl (rt_conv_to rfl (fun w => run_convi w CInt.ok CInt.ok _ _) (vint (c64 _ hxB)))) ?_
          refine RG.S0 (LT.plain rfl (rt_move rfl)) ?_
          refine RG.S0 (LT.plain rfl (rt_move rfl)) ?_
          refine RG.S0 (LT.plain rfl (rc_index rfl rfl (by assumption))) ?_
          refine RG.S0 (LT.plain rfl (rc_load1 rfl rfl)) ?_
          refine RG.S0 (LT.plain rfl (rt_conv_to rfl (fun w => run_convi w CInt.ok CInt.ok _ _) (vint (c64 _ hyB)))) ?_
          refine RG.S0 (LT.plain rfl (rt_bin_to rfl rfl (fun w => run_addi w _ _ _ _ _ _) (vint e11))) ?_
          refine RG.S0 (LT.plain rfl (rt_bin_to rfl rfl (fun w => run_addi w _ _ _ _ _ _) (vint e12))) ?_
          refine RG.S0 (LT.plain rfl (rt_assign rfl)) ?_
          refine RG.nil (by kernel_rfl) ?_
          repeat (first | refine WpD.seq ?_ | refine WpD.block ?_)
          refine WpD.reg ?_
          refine RG.S0 (LT.plain rfl (rt_move rfl)) ?_
          refine RG.S0 (LT.plain rfl (rt_move rfl)) ?_
          refine RG.S0 (LT.plain rfl (rt_move rfl)) ?_
          refine RG.S0 (LT.plain rfl (rt_conv_to rfl (fun w => run_convi w CInt.ok CInt.ok _ _) (vint (u32w _)))) ?_
          refine RG.S0 (LT.plain rfl (ru_index rfl rfl (by assumption))) ?_
          refine RG.N1 (LT.plain rfl (ru_set1 rfl rfl rfl (by assumption) (by assumption))) ?_
          refine RG.nil (by kernel_rfl) ?_
          repeat (first | refine WpD.seq ?_ | refine WpD.block ?_)
          refine WpD.reg ?_
          refine RG.S0 (LT.plain rfl (rt_move rfl)) ?_
          refine RG.S0 (LT.plain rfl (rt_bin_to rfl rfl (fun w => run_shri w _ _ _ _ _ _ _ (by first | decide | omega | assumption)) (vint (shr32 _)))) ?_
          refine RG.S0 (LT.plain rfl (rt_assign rfl)) ?_
          refine RG.nil (by kernel_rfl) ?_
          repeat (first | refine WpD.seq ?_ | refine WpD.block ?_)
          refine WpD.reg ?_
          refine RG.S0 (LT.plain rfl (rt_bin_to rfl rfl (fun w => run_addi w _ _ _ _ _ _) (vint e13))) ?_
          refine RG.S0 (LT.plain rfl (rt_move rfl)) ?_
          refine RG.nil (by kernel_rfl) ?_
          refine ⟨⟨(k + 1, A ++ [(ca + x + y) % B], (ca + x + y) / B), hkn2, hS'⟩, ?_, by simp only; omega⟩
          refine Sub.mk ?_ ?_
          · repeat (first | exact trivial | refine ⟨⟨_, rfl, ⟨rfl, rfl⟩⟩, Option.some_ne_none _, ?_⟩ | refine ⟨⟨_, rfl, ⟨rfl, rfl, rfl, rfl⟩⟩, Option.some_ne_none _, ?_⟩ | refine ⟨⟨_, rfl, PLe.refl _⟩, trivial, ?_⟩)
          · repeat (first | exact trivial | refine ⟨⟨_, rfl, PsLe.refl _⟩, ?_⟩)
        · have b2 : decide ((k : Int) < (v.length : Int)) = false := decide_eq_false (by omega)
          have hkv2 : k = v.length := by omega
          subst hkv2
          obtain ⟨rfl, p2⟩ := r3 A ca hS
          have hdr2 : N.drop v.length = [] := List.drop_eq_nil_of_le (by omega)
          have hMx2 : (A ++ (N.drop v.length ++ [B - 1]))[v.length]? = some (B - 1) := by rw [List.getElem?_append_right (by omega), hAl, Nat.sub_self, hdr2]; rfl
          have hget2 := getMid (Lo := Lo) (Hi := Hi) hMx2
          have hsetl2 := lenMid (Lo := Lo) (Hi := Hi) (List.getElem?_eq_some_iff.1 hMx2).1
          have e5 : IntKind.u32.wrap ((1 : Nat) : Int) = ((1 : Nat) : Int) := by rw [IntKind.wrap_u32]; rfl
          have e6 : IntKind.u32.wrap (((B - 1 : Nat) : Int) + ((1 : Nat) : Int)) = ((0 : Nat) : Int) := by rw [IntKind.wrap_u32, B_def]; rfl
          have hset2 : ((Lo ++ ((A ++ (N.drop v.length ++ [B - 1])) ++ Hi)).map lb).set (Lo.length + v.length) (ex (.int .u32 ((0 : Nat) : Int))) = (Lo ++ (pd (val u % val v) (v.length + 1) ++ Hi)).map lb := by
            rw [hdr2, List.nil_append, ← p2]
            have := setMid Lo A [] Hi (B - 1) 0 hAl
            rwa [List.append_nil] at this
          have e1' : IntKind.u64.wrap ((g : Int) - 1) = ((val u / val v : Nat) : Int) := by rw [wu64 (by omega) (by omega)]; omega
          have hgw : ((val u / val v % B : Nat) : Int) = ((val u / val v : Nat) : Int) := by rw [Nat.mod_eq_of_lt K.qlt]
          repeat (first | refine WpD.seq ?_ | refine WpD.block ?_)
          refine WpD.reg ?_
          refine RG.S0 (LT.plain rfl (rt_bin_to rfl rfl (fun w => run_lti w _ _ _ _ _ _) (vbool b2))) ?_
          refine RG.nil (by kernel_rfl) ?_
          repeat (first | refine WpD.seq ?_ | refine WpD.block ?_)
          refine WpD.condF rfl ?_
          repeat (first | refine WpD.seq ?_ | refine WpD.block ?_)
          refine WpD.exit ?_
          repeat (first | refine WpD.seq ?_ | refine WpD.block ?_)
          refine WpD.reg ?_
          refine RG.S0 (LT.plain rfl (rt_move rfl)) ?_
          refine RG.S0 (LT.plain rfl (rt_move rfl)) ?_
          refine RG.S0 (LT.plain rfl (ru_index rfl rfl (by assumption))) ?_
          refine RG.S0 (LT.plain rfl (ru_load1 rfl rfl (by assumption))) ?_
          refine RG.S0 (LT.plain rfl (rt_move rfl)) ?_
          refine RG.S0 (LT.plain rfl (rt_conv_to rfl (fun w => run_convi w CInt.ok CInt.ok _ _) (vint e5))) ?_
          refine RG.S0 (LT.plain rfl (rt_bin_to rfl rfl (fun w => run_addi w _ _ _ _ _ _) (vint e6))) ?_
          refine RG.S0 (LT.plain rfl (ru_index rfl rfl (by assumption))) ?_
          refine RG.N1 (LT.plain rfl (ru_set1 rfl rfl rfl (by assumption) (by assumption))) ?_
          refine RG.nil (by kernel_rfl) ?_
          repeat (first | refine WpD.seq ?_ | refine WpD.block ?_)
          refine WpD.reg ?_
          refine RG.S0 (LT.plain rfl (rt_move rfl)) ?_
          refine RG.S0 (LT.plain rfl (rt_bin_to rfl rfl (fun w => run_subi w _ _ _ _ _ _) (vint e1'))) ?_
          refine RG.S0 (LT.plain rfl (rt_conv_to rfl (fun w => run_convi w CInt.ok CInt.ok _ _) (vint ((u32w _).trans hgw)))) ?_
          refine RG.S0 (LT.plain rfl (rt_assign rfl)) ?_
          refine RG.nil (by kernel_rfl) ?_
          repeat (first | refine WpD.seq ?_ | refine WpD.block ?_)
          refine WpD.ret ?_
          exact retG1 rfl rfl (PLe.refl _) trivial ⟨⟨_, rfl, PsLe.refl _⟩, trivial⟩
end
end Go.Proofs.YtnhbdldchoepfaaDoor

/- Power sums of the program: natural.add, natural.scale, powerSums. -/
import Derived.Test.YtgbiccenhionaaaGreatDoorBn
import Derived.Test.YtgbiccenhionaaaGreatDoorSymbol
import Derived.Test.YtgbiccenhionaaaGreatDoorDisc
set_option maxRecDepth 3000
namespace Go.Proofs.YtgbiccenhionaaaGreatDoor
open Go.RowKit Limb Num
instance carr_nat : CArr Tryz.prog 83 11 64 1 := ⟨Tryz.underlying83, by kernel_rfl⟩
theorem zero_nat : ZeroOf Tryz.prog 83 [.int .u32 0, .int .u32 0, .int .u32 0, .int .u32 0, .int .u32 0, .int .u32 0, .int .u32 0, .int .u32 0, .int .u32 0, .int .u32 0, .int .u32 0] := ⟨by kernel_rfl, by simp [Value.oneCell']⟩
instance czero_nat : CZero Tryz.prog 83 [.int .u32 0, .int .u32 0, .int .u32 0, .int .u32 0, .int .u32 0, .int .u32 0, .int .u32 0, .int .u32 0, .int .u32 0, .int .u32 0, .int .u32 0] := ⟨zero_nat⟩
instance crow_nat : CRow Tryz.prog 83 11 := ⟨⟨_, Tryz.underlying83, rfl, by kernel_rfl⟩⟩
instance cslice_nats : CSlice Tryz.prog 79 83 := ⟨Tryz.underlying79⟩
instance celem_nats : CElem Tryz.prog 79 83 11 := ⟨Tryz.underlying79, by kernel_rfl⟩
instance crowz_nat : CRowZ Tryz.prog 83 11 [.int .u32 0, .int .u32 0, .int .u32 0, .int .u32 0, .int .u32 0, .int .u32 0, .int .u32 0, .int .u32 0, .int .u32 0, .int .u32 0, .int .u32 0] 44 := ⟨by kernel_rfl, rfl, rfl⟩
instance cslice_ints : CSlice Tryz.prog 70 25 := ⟨Tryz.underlying70⟩
instance celem_ints : CElem Tryz.prog 70 25 2 := ⟨Tryz.underlying70, by kernel_rfl⟩
instance crowz_int : CRowZ Tryz.prog 25 2 [.bool false, .slice none 0 0] 32 := ⟨by kernel_rfl, rfl, rfl⟩
instance cbody77 : CBody Tryz.prog 77 := ⟨⟨_, Tryz.func77, rfl, by rfl⟩⟩
instance cbody78 : CBody Tryz.prog 78 := ⟨⟨_, Tryz.func78, rfl, by rfl⟩⟩
instance cbody56 : CBody Tryz.prog 56 := ⟨⟨_, Tryz.func56, rfl, by rfl⟩⟩
/-- Limbs times a number. -/
def ScInv (X : List Nat) (a i : Nat) (O : List Nat) (c : Nat) : Prop := O.length = i ∧ Lm O ∧ c < B ∧ val O + B ^ i * c = val (X.take i) * a
theorem ScInv.step {X : List Nat} {a i x : Nat} {O : List Nat} {c : Nat} (hX : Lm X) (ha : a < 2147483648) (hx : X[i]? = some x) (h : ScInv X a i O c) : ScInv X a (i + 1) (O ++ [(c + x * a) % B]) ((c + x * a) / B) ∧ c + x * a < 18446744073709551616 := by
  obtain ⟨h1, h2, h3, h4⟩ := h
  have hxB := hX.get hx
  have hm : x * a ≤ 4294967295 * 2147483647 := Nat.mul_le_mul (by rw [B_def] at hxB; omega) (by omega)
  have hlt : c + x * a < 18446744073709551616 := by rw [B_def] at h3; omega
  refine ⟨⟨by simp [h1], lm_snoc h2 (Nat.mod_lt _ B_pos), ?_, ?_⟩, hlt⟩
  · rw [Nat.div_lt_iff_lt_mul B_pos, B_def]; omega
  · rw [val_snoc, h1, val_take_succ, hx, Option.getD_some, Nat.add_mul, ← h4]
    have e := Nat.div_add_mod (c + x * a) B
    have : B ^ i * (c + x * a) = B ^ i * (B * ((c + x * a) / B)) + B ^ i * ((c + x * a) % B) := by rw [← Nat.mul_add, e]
    rw [Nat.pow_succ, Nat.mul_assoc, Nat.mul_assoc (B ^ i) x a]
    rw [Nat.mul_add] at this
    omega
theorem setM (Lo N Hi : List Nat) (y x : Nat) {i o : Nat} (hN : N.length = i) (ho : o = Lo.length + i) : ((Lo ++ (N ++ (y :: Hi))).map lb).set o (lb x) = (Lo ++ ((N ++ [x]) ++ Hi)).map lb := by
  subst ho
  have := setL (Lo ++ N) Hi y x
  rw [List.length_append, hN] at this
  simp only [List.append_assoc, List.cons_append, List.nil_append] at this ⊢
  exact this
theorem getM (Lo N Hi : List Nat) (y : Nat) {i o : Nat} (hN : N.length = i) (ho : o = Lo.length + i) : ((Lo ++ (N ++ (y :: Hi))).map lb)[o]? = some (lb y) := by
  subst ho
  refine getL ?_
  rw [List.getElem?_append_right (by omega), List.getElem?_append_right (by omega)]
  rw [show Lo.length + i - Lo.length - N.length = 0 by omega]
  rfl
theorem getP (Lo : List Pd) (N Z : List Nat) (Hi : List Pd) (y : Nat) {i o : Nat} (hN : N.length = i) (ho : o = Lo.length + i) : (Lo ++ ((N ++ y :: Z).map lb ++ Hi))[o]? = some (lb y) := by
  subst ho
  rw [List.getElem?_append_right (by omega), List.map_append, List.append_assoc, List.getElem?_append_right (by simp; omega)]
  rw [show Lo.length + i - Lo.length - (N.map lb).length = 0 by simp; omega]
  rfl
theorem setP (Lo : List Pd) (N Z : List Nat) (Hi : List Pd) (y x : Nat) {i o : Nat} (hN : N.length = i) (ho : o = Lo.length + i) : (Lo ++ ((N ++ y :: Z).map lb ++ Hi)).set o (lb x) = Lo ++ (((N ++ [x]) ++ Z).map lb ++ Hi) := by
  subst ho
  rw [List.set_append_right _ _ (by omega), List.map_append, List.append_assoc, List.set_append_right _ _ (by simp; omega)]
  rw [show Lo.length + i - Lo.length - (N.map lb).length = 0 by simp; omega]
  simp
section
variable (En : Ev)
theorem natadd (Lo Hi : List Pd) (x y : Nat) (h : x + y < B ^ 11) : FnG Tryz.prog En 77 [.ptr 1000 Lo.length, .ptr 1001 0] [(1000, Lo ++ ((pd x 11).map lb ++ Hi)), (1001, (pd y 11).map lb)] (.one (ex (.tuple #[]))) [(1000, Lo ++ ((pd (x + y) 11).map lb ++ Hi)), (1001, (pd y 11).map lb)] := by
  have lx := pd_length x 11
  have ly := pd_length y 11
  have mx := pd_lm x 11
  have my := pd_lm y 11
  have vx := pd_val x 11 (by omega)
  have vy := pd_val y 11 (by omega)
  generalize pd x 11 = X at *
  generalize pd y 11 = Y at *
  refine fn_of_bodyG Tryz.func77 rfl Tryz.ntmps77 rfl ?_
  intro w0 h0 c
  repeat (first | refine js ?_ | refine jb ?_)
  refine jr ?_
  refine ja rfl ?_
  refine RG.nil (by kernel_rfl) ?_
  repeat (first | refine js ?_ | refine jb ?_)
  refine jr ?_
  refine jm rfl ?_
  refine jm rfl ?_
  refine RG.nil (by kernel_rfl) ?_
  repeat (first | refine js ?_ | refine jb ?_)
  refine WpD.loop (α := {p : Nat × List Nat × Nat // p.1 ≤ 11 ∧ SumInv X Y p.1 p.2.1 p.2.2}) (fun p => ⟨[(0, .ptr 1000 Lo.length), (1, .ptr 1001 0), (4, .one (ex (.int .u64 (p.1.2.2 : Int)))), (7, .ptr 1000 Lo.length), (8, .one (ex (.int .i64 (p.1.1 : Int))))], [(1000, Lo ++ ((p.1.2.1 ++ X.drop p.1.1).map lb ++ Hi)), (1001, Y.map lb)]⟩) (fun p => 11 - p.1.1) ⟨(0, [], 0), by omega, SumInv.start _ _⟩ ?_ ?_
  · refine Sub.mk ?_ ?_
    · repeat (first | exact trivial | refine jv rfl ?_ | refine jw rfl (js0 rfl) ?_ | refine jw rfl ⟨js0 rfl, js0 rfl⟩ ?_ | refine jx rfl ⟨js0 rfl, js0 rfl⟩ ?_ | refine jw rfl (clo_live (js0 rfl) (js0 rfl)) ?_ | refine ⟨⟨_, rfl, PLe.refl _⟩, trivial, ?_⟩)
    · repeat (first | exact trivial | refine jz ?_ | refine jy rfl ?_)
  rintro ⟨⟨i, O, c⟩, hi, hS⟩
  dsimp only at hi hS ⊢
  obtain ⟨hO1, hO2, hO3, hO4⟩ := id hS
  by_cases hlt : i < 11
  · obtain ⟨u, hu⟩ : ∃ u, X[i]? = some u := ⟨_, List.getElem?_eq_getElem (by omega)⟩
    obtain ⟨v, hv⟩ : ∃ v, Y[i]? = some v := ⟨_, List.getElem?_eq_getElem (by omega)⟩
    have huB := mx.get hu
    have hvB := my.get hv
    have hS' := SumInv.step mx my hS
    rw [hu, hv, Option.getD_some, Option.getD_some] at hS'
    rw [B_def] at huB hvB
    have hdr : X.drop i = u :: X.drop (i + 1) := by rw [List.drop_eq_getElem_cons (by omega : i < X.length), (List.getElem?_eq_some_iff.1 hu).2]
    rw [hdr]
    have g1 : (Lo ++ ((O ++ u :: X.drop (i + 1)).map lb ++ Hi))[Lo.length + i]? = some (lb u) := getP _ _ _ _ _ hO1 rfl
    have g2 : (Y.map lb)[i]? = some (lb v) := getL hv
    have e1 : IntKind.u64.wrap (u : Int) = (u : Int) := wu64 (by omega) (by omega)
    have e2 : IntKind.u64.wrap (v : Int) = (v : Int) := wu64 (by omega) (by omega)
    have e3 : IntKind.u64.wrap ((u : Int) + (v : Int)) = ((u + v : Nat) : Int) := by rw [wu64 (by omega) (by omega)]; omega
    have e4 : IntKind.u64.wrap ((c : Int) + ((u + v : Nat) : Int)) = ((c + (u + v) : Nat) : Int) := by rw [wu64 (by omega) (by omega)]; omega
    have s1 : (Lo ++ ((O ++ u :: X.drop (i + 1)).map lb ++ Hi)).set (Lo.length + i) (ex (.int .u32 (((c + (u + v)) % B : Nat) : Int))) = Lo ++ (((O ++ [(c + (u + v)) % B]) ++ X.drop (i + 1)).map lb ++ Hi) := setP _ _ _ _ _ _ hO1 rfl
    have l1 : Lo.length + i < (Lo ++ ((O ++ u :: X.drop (i + 1)).map lb ++ Hi)).length := by simp; omega
    have e6 : IntKind.i64.wrap ((i : Int) + 1) = ((i + 1 : Nat) : Int) := by rw [w64 (by omega) (by omega)]; rfl
    repeat (first | refine js ?_ | refine jb ?_)
    refine jr ?_
    refine jS (rt_bin_to rfl rfl (fun w => run_lti w _ _ _ _ _ _) (vbool (decide_eq_true (by first | assumption | omega)))) ?_
    refine RG.nil (by kernel_rfl) ?_
    repeat (first | refine js ?_ | refine jb ?_)
    refine WpD.condT rfl ?_
    repeat (first | refine js ?_ | refine jb ?_)
    refine WpD.skip ?_
    repeat (first | refine js ?_ | refine jb ?_)
    refine jr ?_
    refine jm rfl ?_
    refine jS (ru_nilCheck rfl) ?_
    refine jS (ru_indexArr rfl rfl hlt (o' := Lo.length + i) (by omega)) ?_
    refine jS (ru_load1 rfl rfl (by assumption)) ?_
    refine ja rfl ?_
    refine ja rfl ?_
    refine RG.nil (by kernel_rfl) ?_
    repeat (first | refine js ?_ | refine jb ?_)
    refine jr ?_
    refine jm rfl ?_
    refine jm rfl ?_
    refine jS (rt_conv_to rfl (fun w => run_convi w CInt.ok CInt.ok _ _) (vint e1)) ?_
    refine jm rfl ?_
    refine jm rfl ?_
    refine jS (ru_nilCheck rfl) ?_
    refine jS (ru_indexArr rfl rfl hlt (o' := i) (by omega)) ?_
    refine jS (ru_load1 rfl rfl (by assumption)) ?_
    refine jS (rt_conv_to rfl (fun w => run_convi w CInt.ok CInt.ok _ _) (vint e2)) ?_
    refine jS (rt_bin_to rfl rfl (fun w => run_addi w _ _ _ _ _ _) (vint e3)) ?_
    refine jS (rt_bin_to rfl rfl (fun w => run_addi w _ _ _ _ _ _) (vint e4)) ?_
    refine ja rfl ?_
    refine RG.nil (by kernel_rfl) ?_
    repeat (first | refine js ?_ | refine jb ?_)
    refine jr ?_
    refine jm rfl ?_
    refine jm rfl ?_
    refine jm rfl ?_
    refine jS (rt_conv_to rfl (fun w => run_convi w CInt.ok CInt.ok _ _) (vint (u32w _))) ?_
    refine jS (ru_nilCheck rfl) ?_
    refine jS (ru_indexArr rfl rfl hlt (o' := Lo.length + i) (by omega)) ?_
    refine jO (ru_set1 rfl rfl rfl (by assumption) (by assumption)) ?_
    refine RG.nil (by kernel_rfl) ?_
    repeat (first | refine js ?_ | refine jb ?_)
    refine jr ?_
    refine jm rfl ?_
    refine jS (rt_bin_to rfl rfl (fun w => run_shri w _ _ _ _ _ _ _ (by first | decide | omega | assumption)) (vint (shr32 _))) ?_
    refine ja rfl ?_
    refine RG.nil (by kernel_rfl) ?_
    repeat (first | refine js ?_ | refine jb ?_)
    refine jr ?_
    refine jS (rt_bin_to rfl rfl (fun w => run_addi w _ _ _ _ _ _) (vint e6)) ?_
    refine jm rfl ?_
    refine RG.nil (by kernel_rfl) ?_
    refine ⟨⟨(i + 1, O ++ [(c + (u + v)) % B], (c + (u + v)) / B), by omega, ?_⟩, ?_, by dsimp only; omega⟩
    · rw [← Nat.add_assoc]; exact hS'
    · refine Sub.mk ?_ ?_
      · repeat (first | exact trivial | refine jv rfl ?_ | refine jw rfl (js0 rfl) ?_ | refine jw rfl ⟨js0 rfl, js0 rfl⟩ ?_ | refine jx rfl ⟨js0 rfl, js0 rfl⟩ ?_ | refine jw rfl (clo_live (js0 rfl) (js0 rfl)) ?_ | refine ⟨⟨_, rfl, PLe.refl _⟩, trivial, ?_⟩)
      · repeat (first | exact trivial | refine jz ?_ | refine jy rfl ?_)
  · have hi11 : i = 11 := by omega
    subst hi11
    have hd : X.drop 11 = [] := List.drop_eq_nil_of_le (by omega)
    rw [List.take_of_length_le (by omega), List.take_of_length_le (by omega), vx, vy] at hO4
    have hc0 : c = 0 := by
      rcases Nat.eq_zero_or_pos c with h0 | h0
      · exact h0
      · have : B ^ 11 * 1 ≤ B ^ 11 * c := Nat.mul_le_mul_left _ h0
        omega
    rw [hc0, Nat.mul_zero, Nat.add_zero] at hO4
    have hO : O = pd (x + y) 11 := pd_eq hO2 hO4 hO1
    rw [hd, List.append_nil, hO]
    repeat (first | refine js ?_ | refine jb ?_)
    refine jr ?_
    refine jS (rt_bin_to rfl rfl (fun w => run_lti w _ _ _ _ _ _) (vbool (decide_eq_false (by first | assumption | omega)))) ?_
    refine RG.nil (by kernel_rfl) ?_
    repeat (first | refine js ?_ | refine jb ?_)
    refine WpD.condF rfl ?_
    repeat (first | refine js ?_ | refine jb ?_)
    refine WpD.exit ?_
    exact retG0 rfl ⟨.inl ⟨_, rfl, PsLe.refl _⟩, .inl ⟨_, rfl, PsLe.refl _⟩, trivial⟩
theorem natscale (x a : Nat) (ha : a < 2147483648) (h : x * a < B ^ 11) (hx : x < B ^ 11) : FnG Tryz.prog En 78 [.ptr 1000 0, .one (ex (.int .u64 (a : Int)))] [(1000, (pd x 11).map lb)] (.one (ex (.tuple #[]))) [(1000, (pd (x * a) 11).map lb)] := by
  have lx := pd_length x 11
  have mx := pd_lm x 11
  have vx := pd_val x 11 hx
  generalize pd x 11 = X at *
  refine fn_of_bodyG Tryz.func78 rfl Tryz.ntmps78 rfl ?_
  intro w0 h0 c
  repeat (first | refine js ?_ | refine jb ?_)
  refine jr ?_
  refine ja rfl ?_
  refine RG.nil (by kernel_rfl) ?_
  repeat (first | refine js ?_ | refine jb ?_)
  refine jr ?_
  refine jm rfl ?_
  refine jm rfl ?_
  refine RG.nil (by kernel_rfl) ?_
  repeat (first | refine js ?_ | refine jb ?_)
  refine WpD.loop (α := {p : Nat × List Nat × Nat // p.1 ≤ 11 ∧ ScInv X a p.1 p.2.1 p.2.2}) (fun p => ⟨[(0, .ptr 1000 0), (1, .one (ex (.int .u64 (a : Int)))), (4, .one (ex (.int .u64 (p.1.2.2 : Int)))), (7, .ptr 1000 0), (8, .one (ex (.int .i64 (p.1.1 : Int))))], [(1000, (p.1.2.1 ++ X.drop p.1.1).map lb)]⟩) (fun p => 11 - p.1.1) ⟨(0, [], 0), by omega, rfl, Lm.nil, B_pos, by simp [val]⟩ ?_ ?_
  · refine Sub.mk ?_ ?_
    · repeat (first | exact trivial | refine jv rfl ?_ | refine jw rfl (js0 rfl) ?_ | refine jw rfl ⟨js0 rfl, js0 rfl⟩ ?_ | refine jx rfl ⟨js0 rfl, js0 rfl⟩ ?_ | refine jw rfl (clo_live (js0 rfl) (js0 rfl)) ?_ | refine ⟨⟨_, rfl, PLe.refl _⟩, trivial, ?_⟩)
    · repeat (first | exact trivial | refine jz ?_ | refine jy rfl ?_)
  rintro ⟨⟨i, O, c⟩, hi, hS⟩
  dsimp only at hi hS ⊢
  obtain ⟨hO1, hO2, hO3, hO4⟩ := id hS
  by_cases hlt : i < 11
  · obtain ⟨u, hu⟩ : ∃ u, X[i]? = some u := ⟨_, List.getElem?_eq_getElem (by omega)⟩
    have huB := mx.get hu
    obtain ⟨hS', hbd⟩ := hS.step mx ha hu
    rw [B_def] at huB
    have hdr : X.drop i = u :: X.drop (i + 1) := by rw [List.drop_eq_getElem_cons (by omega : i < X.length), (List.getElem?_eq_some_iff.1 hu).2]
    rw [hdr]
    have g1 : ((O ++ (u :: X.drop (i + 1))).map lb)[i]? = some (lb u) := getM [] O _ u hO1 (by simp)
    have e1 : IntKind.u64.wrap (u : Int) = (u : Int) := wu64 (by omega) (by omega)
    have e3 : IntKind.u64.wrap ((u : Int) * (a : Int)) = ((u * a : Nat) : Int) := by rw [← Int.natCast_mul]; exact wu64 (by omega) (by omega)
    have e4 : IntKind.u64.wrap ((c : Int) + ((u * a : Nat) : Int)) = ((c + u * a : Nat) : Int) := by rw [wu64 (by omega) (by omega)]; omega
    have s1 : ((O ++ (u :: X.drop (i + 1))).map lb).set i (ex (.int .u32 (((c + u * a) % B : Nat) : Int))) = ((O ++ [(c + u * a) % B]) ++ X.drop (i + 1)).map lb := setM [] O _ u _ hO1 (by simp)
    have l1 : i < ((O ++ (u :: X.drop (i + 1))).map lb).length := by simp; omega
    have e6 : IntKind.i64.wrap ((i : Int) + 1) = ((i + 1 : Nat) : Int) := by rw [w64 (by omega) (by omega)]; rfl
    repeat (first | refine js ?_ | refine jb ?_)
    refine jr ?_
    refine jS (rt_bin_to rfl rfl (fun w => run_lti w _ _ _ _ _ _) (vbool (decide_eq_true (by first | assumption | omega)))) ?_
    refine RG.nil (by kernel_rfl) ?_
    repeat (first | refine js ?_ | refine jb ?_)
    refine WpD.condT rfl ?_
    repeat (first | refine js ?_ | refine jb ?_)
    refine WpD.skip ?_
    repeat (first | refine js ?_ | refine jb ?_)
    refine jr ?_
    refine jm rfl ?_
    refine jS (ru_nilCheck rfl) ?_
    refine jS (ru_indexArr rfl rfl hlt (o' := i) (by omega)) ?_
    refine jS (ru_load1 rfl rfl (by assumption)) ?_
    refine ja rfl ?_
    refine ja rfl ?_
    refine RG.nil (by kernel_rfl) ?_
    repeat (first | refine js ?_ | refine jb ?_)
    refine jr ?_
    refine jm rfl ?_
    refine jm rfl ?_
    refine jS (rt_conv_to rfl (fun w => run_convi w CInt.ok CInt.ok _ _) (vint e1)) ?_
    refine jm rfl ?_
    refine jS (rt_bin_to rfl rfl (fun w => run_muli w _ _ _ _ _ _) (vint e3)) ?_
    refine jS (rt_bin_to rfl rfl (fun w => run_addi w _ _ _ _ _ _) (vint e4)) ?_
    refine ja rfl ?_
    refine RG.nil (by kernel_rfl) ?_
    repeat (first | refine js ?_ | refine jb ?_)
    refine jr ?_
    refine jm rfl ?_
    refine jm rfl ?_
    refine jm rfl ?_
    refine jS (rt_conv_to rfl (fun w => run_convi w CInt.ok CInt.ok _ _) (vint (u32w _))) ?_
    refine jS (ru_nilCheck rfl) ?_
    refine jS (ru_indexArr rfl rfl hlt (o' := i) (by omega)) ?_
    refine jO (ru_set1 rfl rfl rfl (by assumption) (by assumption)) ?_
    refine RG.nil (by kernel_rfl) ?_
    repeat (first | refine js ?_ | refine jb ?_)
    refine jr ?_
    refine jm rfl ?_
    refine jS (rt_bin_to rfl rfl (fun w => run_shri w _ _ _ _ _ _ _ (by first | decide | omega | assumption)) (vint (shr32 _))) ?_
    refine ja rfl ?_
    refine RG.nil (by kernel_rfl) ?_
    repeat (first | refine js ?_ | refine jb ?_)
    refine jr ?_
    refine jS (rt_bin_to rfl rfl (fun w => run_addi w _ _ _ _ _ _) (vint e6)) ?_
    refine jm rfl ?_
    refine RG.nil (by kernel_rfl) ?_
    refine ⟨⟨(i + 1, O ++ [(c + u * a) % B], (c + u * a) / B), by omega, hS'⟩, ?_, by dsimp only; omega⟩
    refine Sub.mk ?_ ?_
    · repeat (first | exact trivial | refine jv rfl ?_ | refine jw rfl (js0 rfl) ?_ | refine jw rfl ⟨js0 rfl, js0 rfl⟩ ?_ | refine jx rfl ⟨js0 rfl, js0 rfl⟩ ?_ | refine jw rfl (clo_live (js0 rfl) (js0 rfl)) ?_ | refine ⟨⟨_, rfl, PLe.refl _⟩, trivial, ?_⟩)
    · repeat (first | exact trivial | refine jz ?_ | refine jy rfl ?_)
  · have hi11 : i = 11 := by omega
    subst hi11
    have hd : X.drop 11 = [] := List.drop_eq_nil_of_le (by omega)
    rw [List.take_of_length_le (by omega), vx] at hO4
    have hc0 : c = 0 := by
      rcases Nat.eq_zero_or_pos c with h0 | h0
      · exact h0
      · have : B ^ 11 * 1 ≤ B ^ 11 * c := Nat.mul_le_mul_left _ h0
        omega
    rw [hc0, Nat.mul_zero, Nat.add_zero] at hO4
    have hO : O = pd (x * a) 11 := pd_eq hO2 hO4 hO1
    rw [hd, List.append_nil, hO]
    repeat (first | refine js ?_ | refine jb ?_)
    refine jr ?_
    refine jS (rt_bin_to rfl rfl (fun w => run_lti w _ _ _ _ _ _) (vbool (decide_eq_false (by first | assumption | omega)))) ?_
    refine RG.nil (by kernel_rfl) ?_
    repeat (first | refine js ?_ | refine jb ?_)
    refine WpD.condF rfl ?_
    repeat (first | refine js ?_ | refine jb ?_)
    refine WpD.exit ?_
    exact retG0 rfl ⟨.inl ⟨_, rfl, PsLe.refl _⟩, trivial⟩
end
/-- The sums over the numbers whose symbol is s. -/
def acc (s d : Int) (j : Nat) : Nat → Nat
  | 0 => 0
  | m + 1 => acc s d j m + (if krZ d ((m + 1 : Nat) : Int) = s then (m + 1) ^ j else 0)
theorem acc_pos {s d : Int} {j m : Nat} (h : krZ d ((m + 1 : Nat) : Int) = s) : acc s d j (m + 1) = acc s d j m + (m + 1) ^ j := by rw [acc, if_pos h]
theorem acc_neg {s d : Int} {j m : Nat} (h : krZ d ((m + 1 : Nat) : Int) ≠ s) : acc s d j (m + 1) = acc s d j m := by rw [acc, if_neg h]; rfl
theorem acc_le (s d : Int) {j m F : Nat} (h : m ≤ F) : acc s d j m ≤ m * F ^ j := by
  induction m with
  | zero => simp [acc]
  | succ m ih =>
    have h1 := ih (by omega)
    have h2 : (m + 1) ^ j ≤ F ^ j := Nat.pow_le_pow_left h _
    rw [acc, Nat.succ_mul]
    split <;> omega
theorem big11 : 40000 ^ 21 < B ^ 11 := by rw [B_def]; decide +kernel
def psS (d : Int) (f j : Nat) : Int := (acc 1 d j f : Int) - (acc (-1) d j f : Int)
theorem rows_split {f : Nat → List Pd} {k : Nat} (hf : ∀ i, (f i).length = k) : ∀ {n j : Nat}, j < n → ∃ Lo Hi, Lo.length = j * k ∧ rows f n = Lo ++ (f j ++ Hi) ∧ ∀ g : Nat → List Pd, (∀ t, t ≠ j → g t = f t) → rows g n = Lo ++ (g j ++ Hi)
  | 0, _, h => by omega
  | n + 1, j, h => by
    by_cases e : j = n
    · subst e
      refine ⟨rows f j, [], rows_len hf j, by rw [rows_succ]; simp, fun g hg => ?_⟩
      rw [rows_succ, rows_congr (g := f) fun i hi => hg i (by omega)]; simp
    · obtain ⟨Lo, Hi, h1, h2, h3⟩ := rows_split hf (n := n) (j := j) (by omega)
      refine ⟨Lo, Hi ++ f n, h1, by rw [rows_succ, h2]; simp, fun g hg => ?_⟩
      rw [rows_succ, h3 g hg, hg n (fun h => e h.symm)]; simp
theorem rows_put {f : Nat → List Pd} {k : Nat} (hf : ∀ i, (f i).length = k) {n j : Nat} (h : j < n) {q : List Pd} (hq : q.length = k) {g : Nat → List Pd} (hg : ∀ t, t < n → g t = if t = j then q else f t) : putL (rows f n) (j * k) q = rows g n := by
  obtain ⟨Lo, Hi, h1, h2, h3⟩ := rows_split hf h
  rw [rows_congr hg, h3 (fun t => if t = j then q else f t) (fun t ht => if_neg ht), h2, ← h1, putL_behind _ _ _ (by simp [hf, hq])]
  simp [hf, hq]
theorem arr_slc {ps : List Pd} {k n cap : Nat} (hl : ps.length = n * k) (hc : n ≤ cap) : PLe (arrP ps 0 n cap) (slc k ps n) := by
  rintro h v ⟨B, vs, cap', h1, ⟨h2, h3⟩, h4, h5⟩
  exact ⟨_, cap', h1, by omega, h3, (fun h => by cases h), hl, fun _ => ⟨B, 0, vs, rfl, h4, fun j u hu => by rw [Nat.zero_add]; exact h5 j u hu⟩⟩
theorem slc_mag {l : List Nat} {n : Nat} (hn : l.length = n) (hl : Lm l) : PLe (slc 1 (l.map lb) n) (mag l) := by
  subst hn
  rintro h v ⟨a, cap, h1, h2, h3, h4, h5, h6⟩
  refine ⟨⟨a, cap, h1, h2, ⟨h3, h4⟩, fun hne => ?_⟩, hl⟩
  obtain ⟨b, off, vs, e, ha, hc⟩ := h6 (by simpa using hne)
  rw [all2_lb ha] at hc
  exact ⟨b, off, e, fun j x hx => hc j _ (by rw [List.getElem?_map, hx]; rfl)⟩
theorem agg_two {p q p' q' : Pd} (h1 : PLe p p') (h2 : PLe q q') : PLe (aggP [p, q]) (aggP [p', q']) := by
  rintro h v ⟨vs, rfl, ha⟩
  obtain ⟨u, x, rfl, hu, hx, o1, o2⟩ := ha.two
  exact ⟨_, rfl, h1 _ _ hu, o1, h2 _ _ hx, o2, trivial⟩
theorem fkron (En : Ev) (a n : Int) (ha : InR a) (hn : InR n) : Fn Tryz.prog En 76 [ex (.int .i64 a), ex (.int .i64 n)] (tupP [ex (.int .i64 (krZ a n)), ex (.int .i64 0)]) := by
  intro h w vs _ hh hv
  obtain ⟨v, u, rfl, h1, h2⟩ := hv.two
  have h1 : v = .int .i64 a := h1
  have h2 : u = .int .i64 n := h2
  subst h1 h2
  refine (kron_any a n w ha hn).mono ?_
  rintro e w' ⟨rfl, rfl⟩
  exact fn_post hh (Below.refl _ _) ⟨[_, _], rfl, rfl, rfl, trivial⟩
instance cbody76 : CBody Tryz.prog 76 := ⟨⟨_, Tryz.func76, rfl, by rfl⟩⟩
section
variable (En : Ev)
set_option maxHeartbeats 4000000 in
theorem bpowerSums (k : Nat) (d : Int) (f : Nat) (hk : k ≤ 20) (hd1 : -40000 ≤ d) (hd2 : d ≤ 40000) (hf : f ≤ 40000) (h3 : ∀ a : Int, krZ d a = 0 ∨ krZ d a = 1 ∨ krZ d a = -1) :
    Fn Tryz.prog En 56 [ex (.int .i64 (k : Int)), ex (.int .i64 d), ex (.int .i64 (f : Int))] (slc 2 (rows (fun j => zCells (psS d f j)) (k + 1)) (k + 1)) := by
  have ek : IntKind.i64.wrap ((k : Int) + 1) = ((k + 1 : Nat) : Int) := by rw [w64 (by omega) (by omega)]; rfl
  have hz0 : (List.replicate (k + 1) ([.int .u32 0, .int .u32 0, .int .u32 0, .int .u32 0, .int .u32 0, .int .u32 0, .int .u32 0, .int .u32 0, .int .u32 0, .int .u32 0, .int .u32 0].map ex)).flatten = rows (fun _ => (pd 0 11).map lb) (k + 1) := by
    generalize k + 1 = n
    induction n with
    | zero => rfl
    | succ n ih => rw [rows_succ, ← ih, List.replicate_succ', List.flatten_append]; congr 1
  refine fn_of_body Tryz.func56 rfl Tryz.ntmps56 rfl ?_
  intro w0 h0
  repeat (first | refine js ?_ | refine jb ?_)
  refine jr ?_
  refine ja rfl ?_
  refine RG.nil (by kernel_rfl) ?_
  repeat (first | refine js ?_ | refine jb ?_)
  refine jr ?_
  refine jm rfl ?_
  refine jS (rt_bin_to rfl rfl (fun w => run_addi w _ _ _ _ _ _) (vint ek)) ?_
  refine jT (ru_makeR rfl rfl rfl rfl (by omega) rfl rfl) ?_
  refine ja rfl ?_
  refine RG.nil (by kernel_rfl) ?_
  repeat (first | refine js ?_ | refine jb ?_)
  refine jr ?_
  refine jm rfl ?_
  refine jS (rt_bin_to rfl rfl (fun w => run_addi w _ _ _ _ _ _) (vint ek)) ?_
  refine jT (ru_makeR rfl rfl rfl rfl (by omega) rfl rfl) ?_
  refine ja rfl ?_
  refine RG.nil (by kernel_rfl) ?_
  repeat (first | refine js ?_ | refine jb ?_)
  refine jr ?_
  refine ja rfl ?_
  refine RG.nil (by kernel_rfl) ?_
  repeat (first | refine js ?_ | refine jb ?_)
  refine WpD.loop (α := {m : Nat // m ≤ f}) (fun m => ⟨[(0, .one (ex (.int .i64 (k : Int)))), (1, .one (ex (.int .i64 d))), (2, .one (ex (.int .i64 (f : Int)))), (7, .own 19 0 (k + 1) (k + 1)), (8, .own 22 0 (k + 1) (k + 1)), (9, .one (ex (.int .i64 ((m.1 + 1 : Nat) : Int))))], [(19, rows (fun j => (pd (acc 1 d j m.1) 11).map lb) (k + 1)), (22, rows (fun j => (pd (acc (-1) d j m.1) 11).map lb) (k + 1))]⟩) (fun m => f - m.1) ⟨0, Nat.zero_le _⟩ ?_ ?_
  · refine Sub.mk ?_ ⟨.inl ⟨_, rfl, PsLe.of_eq hz0⟩, .inl ⟨_, rfl, PsLe.of_eq hz0⟩, trivial⟩
    repeat (first | exact trivial | refine jv rfl ?_ | refine jw rfl (js0 rfl) ?_ | refine jw rfl ⟨js0 rfl, js0 rfl⟩ ?_ | refine jx rfl ⟨js0 rfl, js0 rfl⟩ ?_ | refine jw rfl (clo_live (js0 rfl) (js0 rfl)) ?_ | refine ⟨⟨_, rfl, PLe.refl _⟩, trivial, ?_⟩)
  rintro ⟨m, hm⟩
  dsimp only at hm ⊢
  by_cases hlt : m < f
  · have C0 := fkron En d ((m + 1 : Nat) : Int) ⟨by omega, by omega⟩ ⟨by omega, by omega⟩
    have e2 : IntKind.i64.wrap (((m + 1 : Nat) : Int) + 1) = ((m + 1 + 1 : Nat) : Int) := by rw [w64 (by omega) (by omega)]; rfl
    rcases h3 ((m + 1 : Nat) : Int) with hs | hs | hs
    · rw [hs] at C0
      have hz : rows (fun t => (pd (acc 1 d t m) 11).map lb) (k + 1) = rows (fun t => (pd (acc 1 d t (m + 1)) 11).map lb) (k + 1) := rows_congr fun t _ => by rw [acc_neg (by rw [hs]; decide)]
      have hz2 : rows (fun t => (pd (acc (-1) d t m) 11).map lb) (k + 1) = rows (fun t => (pd (acc (-1) d t (m + 1)) 11).map lb) (k + 1) := rows_congr fun t _ => by rw [acc_neg (by rw [hs]; decide)]
      repeat (first | refine js ?_ | refine jb ?_)
      refine jr ?_
      refine jm rfl ?_
      refine jm rfl ?_
      refine jS (rt_bin_to rfl rfl (fun w => run_lei w _ _ _ _ _ _) (vbool (decide_eq_true (by first | assumption | omega)))) ?_
      refine RG.nil (by kernel_rfl) ?_
      repeat (first | refine js ?_ | refine jb ?_)
      refine WpD.condT rfl ?_
      repeat (first | refine js ?_ | refine jb ?_)
      refine WpD.skip ?_
      repeat (first | refine js ?_ | refine jb ?_)
      refine jr ?_
      refine jm rfl ?_
      refine ja rfl ?_
      refine RG.nil (by kernel_rfl) ?_
      repeat (first | refine js ?_ | refine jb ?_)
      refine jr ?_
      refine jm rfl ?_
      refine jm rfl ?_
      refine jS (ru_call C0 ⟨rfl, rfl, trivial⟩) ?_
      refine jm rfl ?_
      refine jS (rt_extract rfl rfl) ?_
      refine jS (rt_extract rfl rfl) ?_
      refine ja rfl ?_
      refine ja rfl ?_
      refine RG.nil (by kernel_rfl) ?_
      repeat (first | refine js ?_ | refine jb ?_)
      refine jr ?_
      refine jm rfl ?_
      refine RG.nil (by kernel_rfl) ?_
      repeat (first | refine js ?_ | refine jb ?_)
      refine jr ?_
      refine jS (rt_bin_to rfl rfl (fun w => run_eqi w _ _ _ _ _ _) (vbool (beqT (by first | assumption | omega)))) ?_
      refine ja rfl ?_
      refine RG.nil (by kernel_rfl) ?_
      repeat (first | refine js ?_ | refine jb ?_)
      refine WpD.condT rfl ?_
      repeat (first | refine js ?_ | refine jb ?_)
      refine WpD.exit ?_
      repeat (first | refine js ?_ | refine jb ?_)
      refine jr ?_
      refine jm rfl ?_
      refine jS (rt_bin_to rfl rfl (fun w => run_addi w _ _ _ _ _ _) (vint e2)) ?_
      refine ja rfl ?_
      refine RG.nil (by kernel_rfl) ?_
      refine ⟨⟨m + 1, by omega⟩, ?_, by dsimp only; omega⟩
      refine Sub.mk ?_ ⟨.inl ⟨_, rfl, PsLe.of_eq hz⟩, .inl ⟨_, rfl, PsLe.of_eq hz2⟩, trivial⟩
      repeat (first | exact trivial | refine jv rfl ?_ | refine jw rfl (js0 rfl) ?_ | refine jw rfl ⟨js0 rfl, js0 rfl⟩ ?_ | refine jx rfl ⟨js0 rfl, js0 rfl⟩ ?_ | refine jw rfl (clo_live (js0 rfl) (js0 rfl)) ?_ | refine ⟨⟨_, rfl, PLe.refl _⟩, trivial, ?_⟩)
    · rw [hs] at C0
      repeat (first | refine js ?_ | refine jb ?_)
      refine jr ?_
      refine jm rfl ?_
      refine jm rfl ?_
      refine jS (rt_bin_to rfl rfl (fun w => run_lei w _ _ _ _ _ _) (vbool (decide_eq_true (by first | assumption | omega)))) ?_
      refine RG.nil (by kernel_rfl) ?_
      repeat (first | refine js ?_ | refine jb ?_)
      refine WpD.condT rfl ?_
      repeat (first | refine js ?_ | refine jb ?_)
      refine WpD.skip ?_
      repeat (first | refine js ?_ | refine jb ?_)
      refine jr ?_
      refine jm rfl ?_
      refine ja rfl ?_
      refine RG.nil (by kernel_rfl) ?_
      repeat (first | refine js ?_ | refine jb ?_)
      refine jr ?_
      refine jm rfl ?_
      refine jm rfl ?_
      refine jS (ru_call C0 ⟨rfl, rfl, trivial⟩) ?_
      refine jm rfl ?_
      refine jS (rt_extract rfl rfl) ?_
      refine jS (rt_extract rfl rfl) ?_
      refine ja rfl ?_
      refine ja rfl ?_
      refine RG.nil (by kernel_rfl) ?_
      repeat (first | refine js ?_ | refine jb ?_)
      refine jr ?_
      refine jm rfl ?_
      refine RG.nil (by kernel_rfl) ?_
      repeat (first | refine js ?_ | refine jb ?_)
      refine jr ?_
      refine jS (rt_bin_to rfl rfl (fun w => run_eqi w _ _ _ _ _ _) (vbool (beqF (by first | assumption | omega)))) ?_
      refine ja rfl ?_
      refine RG.nil (by kernel_rfl) ?_
      repeat (first | refine js ?_ | refine jb ?_)
      refine WpD.condF rfl ?_
      repeat (first | refine js ?_ | refine jb ?_)
      refine jr ?_
      refine jS (rt_bin_to rfl rfl (fun w => run_eqi w _ _ _ _ _ _) (vbool (beqF (by first | assumption | omega)))) ?_
      refine ja rfl ?_
      refine RG.nil (by kernel_rfl) ?_
      repeat (first | refine js ?_ | refine jb ?_)
      refine WpD.condF rfl ?_
      repeat (first | refine js ?_ | refine jb ?_)
      refine WpD.skip ?_
      repeat (first | refine js ?_ | refine jb ?_)
      refine jr ?_
      refine jS (ru_buildArr (ps := [(_, _)]) ⟨rfl, Part.c rfl, trivial⟩ rfl) ?_
      refine jT (ru_alloc rfl rfl rfl) ?_
      refine jO (ru_storeR rfl rfl rfl rfl rfl rfl) ?_
      refine RG.nil (by kernel_rfl) ?_
      repeat (first | refine js ?_ | refine jb ?_)
      refine jr ?_
      refine jm rfl ?_
      refine jS (ru_lenO rfl CSlice.ok) ?_
      refine jm rfl ?_
      refine RG.nil (by kernel_rfl) ?_
      repeat (first | refine js ?_ | refine jb ?_)
      refine WpD.loop (α := {j : Nat // j ≤ k + 1}) (fun j => ⟨[(0, .one (ex (.int .i64 (k : Int)))), (1, .one (ex (.int .i64 d))), (2, .one (ex (.int .i64 (f : Int)))), (7, .own 19 0 (k + 1) (k + 1)), (8, .own 22 0 (k + 1) (k + 1)), (9, .one (ex (.int .i64 ((m + 1 : Nat) : Int)))), (10, .own 19 0 (k + 1) (k + 1)), (13, .ptr 13 0), (43, .one (ex (.int .i64 ((k + 1 : Nat) : Int)))), (44, .one (ex (.int .i64 (j.1 : Int))))], [(19, rows (fun t => (pd (if t < j.1 then acc 1 d t m + (m + 1) ^ t else acc 1 d t m) 11).map lb) (k + 1)), (22, rows (fun t => (pd (acc (-1) d t m) 11).map lb) (k + 1)), (13, (pd ((m + 1) ^ j.1) 11).map lb)]⟩) (fun j => k + 1 - j.1) ⟨0, Nat.zero_le _⟩ ?_ ?_
      · dsimp only
        have hz : rows (fun t => (pd (acc 1 d t m) 11).map lb) (k + 1) = rows (fun t => (pd (if t < 0 then acc 1 d t m + (m + 1) ^ t else acc 1 d t m) 11).map lb) (k + 1) := rows_congr fun t _ => by rw [if_neg (by omega)]
        have hone : [ex (.int .u32 1), ex (.int .u32 0), ex (.int .u32 0), ex (.int .u32 0), ex (.int .u32 0), ex (.int .u32 0), ex (.int .u32 0), ex (.int .u32 0), ex (.int .u32 0), ex (.int .u32 0), ex (.int .u32 0)] = (pd ((m + 1) ^ 0) 11).map lb := by rw [Nat.pow_zero]; rfl
        refine Sub.mk ?_ ⟨.inl ⟨_, rfl, PsLe.of_eq hz⟩, .inl ⟨_, rfl, PsLe.refl _⟩, .inl ⟨_, rfl, PsLe.of_eq hone⟩, trivial⟩
        repeat (first | exact trivial | refine jv rfl ?_ | refine jw rfl (js0 rfl) ?_ | refine jw rfl ⟨js0 rfl, js0 rfl⟩ ?_ | refine jx rfl ⟨js0 rfl, js0 rfl⟩ ?_ | refine jw rfl (clo_live (js0 rfl) (js0 rfl)) ?_ | refine ⟨⟨_, rfl, PLe.refl _⟩, trivial, ?_⟩)
      rintro ⟨j, hj⟩
      dsimp only at hj ⊢
      by_cases hjl : j < k + 1
      · have hA : ∀ t, (fun t => (pd (if t < j then acc 1 d t m + (m + 1) ^ t else acc 1 d t m) 11).map lb) t = (pd (if t < j then acc 1 d t m + (m + 1) ^ t else acc 1 d t m) 11).map lb := fun _ => rfl
        obtain ⟨Lo, Hi, hLo, hE, hU⟩ := rows_split (f := fun t => (pd (if t < j then acc 1 d t m + (m + 1) ^ t else acc 1 d t m) 11).map lb) (k := 11) (fun _ => by simp [pd_length]) hjl
        have hE2 := hU (fun t => (pd (if t < j + 1 then acc 1 d t m + (m + 1) ^ t else acc 1 d t m) 11).map lb) (fun t ht => by
          by_cases h1 : t < j
          · rw [if_pos h1, if_pos (by omega)]
          · rw [if_neg h1, if_neg (by omega)])
        simp only [if_neg (Nat.lt_irrefl j)] at hE
        simp only [if_pos (Nat.lt_succ_self j)] at hE2
        have b1 := acc_le 1 d (j := j) (m := m) (F := 40000) (by omega)
        have b2 : (m + 1) ^ j ≤ 40000 ^ j := Nat.pow_le_pow_left (by omega) _
        have b3 : m * 40000 ^ j + 40000 ^ j ≤ 40000 * 40000 ^ j := by rw [← Nat.succ_mul]; exact Nat.mul_le_mul_right _ (by omega)
        have b4 : 40000 * 40000 ^ j ≤ 40000 ^ 21 := by rw [← Nat.pow_succ']; exact Nat.pow_le_pow_right (by omega) (by omega)
        have b5 : (m + 1) ^ (j + 1) ≤ 40000 ^ (j + 1) := Nat.pow_le_pow_left (by omega) _
        have b6 : 40000 ^ (j + 1) ≤ 40000 ^ 21 := Nat.pow_le_pow_right (by omega) (by omega)
        have C1 := natadd En Lo Hi (acc 1 d j m) ((m + 1) ^ j) (by have := big11; omega)
        rw [hLo, ← hE, ← hE2] at C1
        have b7 : (m + 1) ^ j * (m + 1) = (m + 1) ^ (j + 1) := (Nat.pow_succ ..).symm
        have C2 := natscale En ((m + 1) ^ j) (m + 1) (by omega) (by rw [b7]; have := big11; omega) (by have := big11; omega)
        rw [b7] at C2
        have e1 : IntKind.u64.wrap ((m + 1 : Nat) : Int) = ((m + 1 : Nat) : Int) := wu64 (by omega) (by omega)
        have e6 : IntKind.i64.wrap ((j : Int) + 1) = ((j + 1 : Nat) : Int) := by rw [w64 (by omega) (by omega)]; rfl
        repeat (first | refine js ?_ | refine jb ?_)
        refine jr ?_
        refine jS (rt_bin_to rfl rfl (fun w => run_lti w _ _ _ _ _ _) (vbool (decide_eq_true (by first | assumption | omega)))) ?_
        refine RG.nil (by kernel_rfl) ?_
        repeat (first | refine js ?_ | refine jb ?_)
        refine WpD.condT rfl ?_
        repeat (first | refine js ?_ | refine jb ?_)
        refine WpD.skip ?_
        repeat (first | refine js ?_ | refine jb ?_)
        refine jr ?_
        refine jm rfl ?_
        refine ja rfl ?_
        refine RG.nil (by kernel_rfl) ?_
        repeat (first | refine js ?_ | refine jb ?_)
        refine jr ?_
        refine jm rfl ?_
        refine jm rfl ?_
        refine jS (ru_indexR rfl rfl hjl (o' := j * 11) (by omega)) ?_
        refine RG.SW (LT.plain rfl (ru_callM (fun i => cond (Nat.beq i 1000) 19 13) C1 ⟨⟨rfl, Option.some_ne_none _⟩, ⟨rfl, Option.some_ne_none _⟩, trivial⟩ ⟨rfl, rfl, trivial⟩ rfl rfl rfl)) rfl ?_
        refine RG.nil (by kernel_rfl) ?_
        repeat (first | refine js ?_ | refine jb ?_)
        refine jr ?_
        refine jm rfl ?_
        refine jS (rt_conv_to rfl (fun w => run_convi w CInt.ok CInt.ok _ _) (vint e1)) ?_
        refine jT (ru_callM (fun _ => 13) C2 ⟨⟨rfl, Option.some_ne_none _⟩, rfl, trivial⟩ ⟨rfl, trivial⟩ rfl rfl rfl) ?_
        refine RG.nil (by kernel_rfl) ?_
        repeat (first | refine js ?_ | refine jb ?_)
        refine jr ?_
        refine jS (rt_bin_to rfl rfl (fun w => run_addi w _ _ _ _ _ _) (vint e6)) ?_
        refine jm rfl ?_
        refine RG.nil (by kernel_rfl) ?_
        refine ⟨⟨j + 1, by omega⟩, ?_, by dsimp only; omega⟩
        refine Sub.mk ?_ ?_
        · repeat (first | exact trivial | refine jv rfl ?_ | refine jw rfl (js0 rfl) ?_ | refine jw rfl ⟨js0 rfl, js0 rfl⟩ ?_ | refine jx rfl ⟨js0 rfl, js0 rfl⟩ ?_ | refine jw rfl (clo_live (js0 rfl) (js0 rfl)) ?_ | refine ⟨⟨_, rfl, PLe.refl _⟩, trivial, ?_⟩)
        · repeat (first | exact trivial | refine jz ?_ | refine jy rfl ?_)
      · have hjk : j = k + 1 := by omega
        subst hjk
        have hz : rows (fun t => (pd (if t < k + 1 then acc 1 d t m + (m + 1) ^ t else acc 1 d t m) 11).map lb) (k + 1) = rows (fun t => (pd (acc 1 d t (m + 1)) 11).map lb) (k + 1) := rows_congr fun t ht => by rw [if_pos ht, acc_pos hs]
        have hz2 : rows (fun t => (pd (acc (-1) d t m) 11).map lb) (k + 1) = rows (fun t => (pd (acc (-1) d t (m + 1)) 11).map lb) (k + 1) := rows_congr fun t _ => by rw [acc_neg (by rw [hs]; decide)]
        repeat (first | refine js ?_ | refine jb ?_)
        refine jr ?_
        refine jS (rt_bin_to rfl rfl (fun w => run_lti w _ _ _ _ _ _) (vbool (decide_eq_false (by first | assumption | omega)))) ?_
        refine RG.nil (by kernel_rfl) ?_
        repeat (first | refine js ?_ | refine jb ?_)
        refine WpD.condF rfl ?_
        repeat (first | refine js ?_ | refine jb ?_)
        refine WpD.exit ?_
        repeat (first | refine js ?_ | refine jb ?_)
        refine jr ?_
        refine jm rfl ?_
        refine jS (rt_bin_to rfl rfl (fun w => run_addi w _ _ _ _ _ _) (vint e2)) ?_
        refine ja rfl ?_
        refine RG.nil (by kernel_rfl) ?_
        refine ⟨⟨m + 1, by omega⟩, ?_, by dsimp only; omega⟩
        refine Sub.mk ?_ ⟨.inl ⟨_, rfl, PsLe.of_eq hz⟩, .inl ⟨_, rfl, PsLe.of_eq hz2⟩, trivial⟩
        repeat (first | exact trivial | refine jv rfl ?_ | refine jw rfl (js0 rfl) ?_ | refine jw rfl ⟨js0 rfl, js0 rfl⟩ ?_ | refine jx rfl ⟨js0 rfl, js0 rfl⟩ ?_ | refine jw rfl (clo_live (js0 rfl) (js0 rfl)) ?_ | refine ⟨⟨_, rfl, PLe.refl _⟩, trivial, ?_⟩)
    · rw [hs] at C0
      repeat (first | refine js ?_ | refine jb ?_)
      refine jr ?_
      refine jm rfl ?_
      refine jm rfl ?_
      refine jS (rt_bin_to rfl rfl (fun w => run_lei w _ _ _ _ _ _) (vbool (decide_eq_true (by first | assumption | omega)))) ?_
      refine RG.nil (by kernel_rfl) ?_
      repeat (first | refine js ?_ | refine jb ?_)
      refine WpD.condT rfl ?_
      repeat (first | refine js ?_ | refine jb ?_)
      refine WpD.skip ?_
      repeat (first | refine js ?_ | refine jb ?_)
      refine jr ?_
      refine jm rfl ?_
      refine ja rfl ?_
      refine RG.nil (by kernel_rfl) ?_
      repeat (first | refine js ?_ | refine jb ?_)
      refine jr ?_
      refine jm rfl ?_
      refine jm rfl ?_
      refine jS (ru_call C0 ⟨rfl, rfl, trivial⟩) ?_
      refine jm rfl ?_
      refine jS (rt_extract rfl rfl) ?_
      refine jS (rt_extract rfl rfl) ?_
      refine ja rfl ?_
      refine ja rfl ?_
      refine RG.nil (by kernel_rfl) ?_
      repeat (first | refine js ?_ | refine jb ?_)
      refine jr ?_
      refine jm rfl ?_
      refine RG.nil (by kernel_rfl) ?_
      repeat (first | refine js ?_ | refine jb ?_)
      refine jr ?_
      refine jS (rt_bin_to rfl rfl (fun w => run_eqi w _ _ _ _ _ _) (vbool (beqF (by first | assumption | omega)))) ?_
      refine ja rfl ?_
      refine RG.nil (by kernel_rfl) ?_
      repeat (first | refine js ?_ | refine jb ?_)
      refine WpD.condF rfl ?_
      repeat (first | refine js ?_ | refine jb ?_)
      refine jr ?_
      refine jS (rt_bin_to rfl rfl (fun w => run_eqi w _ _ _ _ _ _) (vbool (beqT (by first | assumption | omega)))) ?_
      refine ja rfl ?_
      refine RG.nil (by kernel_rfl) ?_
      repeat (first | refine js ?_ | refine jb ?_)
      refine WpD.condT rfl ?_
      repeat (first | refine js ?_ | refine jb ?_)
      refine jr ?_
      refine jm rfl ?_
      refine ja rfl ?_
      refine RG.nil (by kernel_rfl) ?_
      repeat (first | refine js ?_ | refine jb ?_)
      refine jr ?_
      refine jS (ru_buildArr (ps := [(_, _)]) ⟨rfl, Part.c rfl, trivial⟩ rfl) ?_
      refine jT (ru_alloc rfl rfl rfl) ?_
      refine jO (ru_storeR rfl rfl rfl rfl rfl rfl) ?_
      refine RG.nil (by kernel_rfl) ?_
      repeat (first | refine js ?_ | refine jb ?_)
      refine jr ?_
      refine jm rfl ?_
      refine jS (ru_lenO rfl CSlice.ok) ?_
      refine jm rfl ?_
      refine RG.nil (by kernel_rfl) ?_
      repeat (first | refine js ?_ | refine jb ?_)
      refine WpD.loop (α := {j : Nat // j ≤ k + 1}) (fun j => ⟨[(0, .one (ex (.int .i64 (k : Int)))), (1, .one (ex (.int .i64 d))), (2, .one (ex (.int .i64 (f : Int)))), (7, .own 19 0 (k + 1) (k + 1)), (8, .own 22 0 (k + 1) (k + 1)), (9, .one (ex (.int .i64 ((m + 1 : Nat) : Int)))), (10, .own 22 0 (k + 1) (k + 1)), (13, .ptr 13 0), (43, .one (ex (.int .i64 ((k + 1 : Nat) : Int)))), (44, .one (ex (.int .i64 (j.1 : Int))))], [(22, rows (fun t => (pd (if t < j.1 then acc (-1) d t m + (m + 1) ^ t else acc (-1) d t m) 11).map lb) (k + 1)), (19, rows (fun t => (pd (acc 1 d t m) 11).map lb) (k + 1)), (13, (pd ((m + 1) ^ j.1) 11).map lb)]⟩) (fun j => k + 1 - j.1) ⟨0, Nat.zero_le _⟩ ?_ ?_
      · dsimp only
        have hz : rows (fun t => (pd (acc (-1) d t m) 11).map lb) (k + 1) = rows (fun t => (pd (if t < 0 then acc (-1) d t m + (m + 1) ^ t else acc (-1) d t m) 11).map lb) (k + 1) := rows_congr fun t _ => by rw [if_neg (by omega)]
        have hone : [ex (.int .u32 1), ex (.int .u32 0), ex (.int .u32 0), ex (.int .u32 0), ex (.int .u32 0), ex (.int .u32 0), ex (.int .u32 0), ex (.int .u32 0), ex (.int .u32 0), ex (.int .u32 0), ex (.int .u32 0)] = (pd ((m + 1) ^ 0) 11).map lb := by rw [Nat.pow_zero]; rfl
        refine Sub.mk ?_ ⟨.inl ⟨_, rfl, PsLe.of_eq hz⟩, .inl ⟨_, rfl, PsLe.refl _⟩, .inl ⟨_, rfl, PsLe.of_eq hone⟩, trivial⟩
        repeat (first | exact trivial | refine jv rfl ?_ | refine jw rfl (js0 rfl) ?_ | refine jw rfl ⟨js0 rfl, js0 rfl⟩ ?_ | refine jx rfl ⟨js0 rfl, js0 rfl⟩ ?_ | refine jw rfl (clo_live (js0 rfl) (js0 rfl)) ?_ | refine ⟨⟨_, rfl, PLe.refl _⟩, trivial, ?_⟩)
      rintro ⟨j, hj⟩
      dsimp only at hj ⊢
      by_cases hjl : j < k + 1
      · have hA : ∀ t, (fun t => (pd (if t < j then acc (-1) d t m + (m + 1) ^ t else acc (-1) d t m) 11).map lb) t = (pd (if t < j then acc (-1) d t m + (m + 1) ^ t else acc (-1) d t m) 11).map lb := fun _ => rfl
        obtain ⟨Lo, Hi, hLo, hE, hU⟩ := rows_split (f := fun t => (pd (if t < j then acc (-1) d t m + (m + 1) ^ t else acc (-1) d t m) 11).map lb) (k := 11) (fun _ => by simp [pd_length]) hjl
        have hE2 := hU (fun t => (pd (if t < j + 1 then acc (-1) d t m + (m + 1) ^ t else acc (-1) d t m) 11).map lb) (fun t ht => by
          by_cases h1 : t < j
          · rw [if_pos h1, if_pos (by omega)]
          · rw [if_neg h1, if_neg (by omega)])
        simp only [if_neg (Nat.lt_irrefl j)] at hE
        simp only [if_pos (Nat.lt_succ_self j)] at hE2
        have b1 := acc_le (-1) d (j := j) (m := m) (F := 40000) (by omega)
        have b2 : (m + 1) ^ j ≤ 40000 ^ j := Nat.pow_le_pow_left (by omega) _
        have b3 : m * 40000 ^ j + 40000 ^ j ≤ 40000 * 40000 ^ j := by rw [← Nat.succ_mul]; exact Nat.mul_le_mul_right _ (by omega)
        have b4 : 40000 * 40000 ^ j ≤ 40000 ^ 21 := by rw [← Nat.pow_succ']; exact Nat.pow_le_pow_right (by omega) (by omega)
        have b5 : (m + 1) ^ (j + 1) ≤ 40000 ^ (j + 1) := Nat.pow_le_pow_left (by omega) _
        have b6 : 40000 ^ (j + 1) ≤ 40000 ^ 21 := Nat.pow_le_pow_right (by omega) (by omega)
        have C1 := natadd En Lo Hi (acc (-1) d j m) ((m + 1) ^ j) (by have := big11; omega)
        rw [hLo, ← hE, ← hE2] at C1
        have b7 : (m + 1) ^ j * (m + 1) = (m + 1) ^ (j + 1) := (Nat.pow_succ ..).symm
        have C2 := natscale En ((m + 1) ^ j) (m + 1) (by omega) (by rw [b7]; have := big11; omega) (by have := big11; omega)
        rw [b7] at C2
        have e1 : IntKind.u64.wrap ((m + 1 : Nat) : Int) = ((m + 1 : Nat) : Int) := wu64 (by omega) (by omega)
        have e6 : IntKind.i64.wrap ((j : Int) + 1) = ((j + 1 : Nat) : Int) := by rw [w64 (by omega) (by omega)]; rfl
        repeat (first | refine js ?_ | refine jb ?_)
        refine jr ?_
        refine jS (rt_bin_to rfl rfl (fun w => run_lti w _ _ _ _ _ _) (vbool (decide_eq_true (by first | assumption | omega)))) ?_
        refine RG.nil (by kernel_rfl) ?_
        repeat (first | refine js ?_ | refine jb ?_)
        refine WpD.condT rfl ?_
        repeat (first | refine js ?_ | refine jb ?_)
        refine WpD.skip ?_
        repeat (first | refine js ?_ | refine jb ?_)
        refine jr ?_
        refine jm rfl ?_
        refine ja rfl ?_
        refine RG.nil (by kernel_rfl) ?_
        repeat (first | refine js ?_ | refine jb ?_)
        refine jr ?_
        refine jm rfl ?_
        refine jm rfl ?_
        refine jS (ru_indexR rfl rfl hjl (o' := j * 11) (by omega)) ?_
        refine RG.SW (LT.plain rfl (ru_callM (fun i => cond (Nat.beq i 1000) 22 13) C1 ⟨⟨rfl, Option.some_ne_none _⟩, ⟨rfl, Option.some_ne_none _⟩, trivial⟩ ⟨rfl, rfl, trivial⟩ rfl rfl rfl)) rfl ?_
        refine RG.nil (by kernel_rfl) ?_
        repeat (first | refine js ?_ | refine jb ?_)
        refine jr ?_
        refine jm rfl ?_
        refine jS (rt_conv_to rfl (fun w => run_convi w CInt.ok CInt.ok _ _) (vint e1)) ?_
        refine jT (ru_callM (fun _ => 13) C2 ⟨⟨rfl, Option.some_ne_none _⟩, rfl, trivial⟩ ⟨rfl, trivial⟩ rfl rfl rfl) ?_
        refine RG.nil (by kernel_rfl) ?_
        repeat (first | refine js ?_ | refine jb ?_)
        refine jr ?_
        refine jS (rt_bin_to rfl rfl (fun w => run_addi w _ _ _ _ _ _) (vint e6)) ?_
        refine jm rfl ?_
        refine RG.nil (by kernel_rfl) ?_
        refine ⟨⟨j + 1, by omega⟩, ?_, by dsimp only; omega⟩
        refine Sub.mk ?_ ?_
        · repeat (first | exact trivial | refine jv rfl ?_ | refine jw rfl (js0 rfl) ?_ | refine jw rfl ⟨js0 rfl, js0 rfl⟩ ?_ | refine jx rfl ⟨js0 rfl, js0 rfl⟩ ?_ | refine jw rfl (clo_live (js0 rfl) (js0 rfl)) ?_ | refine ⟨⟨_, rfl, PLe.refl _⟩, trivial, ?_⟩)
        · repeat (first | exact trivial | refine jz ?_ | refine jy rfl ?_)
      · have hjk : j = k + 1 := by omega
        subst hjk
        have hz : rows (fun t => (pd (if t < k + 1 then acc (-1) d t m + (m + 1) ^ t else acc (-1) d t m) 11).map lb) (k + 1) = rows (fun t => (pd (acc (-1) d t (m + 1)) 11).map lb) (k + 1) := rows_congr fun t ht => by rw [if_pos ht, acc_pos hs]
        have hz2 : rows (fun t => (pd (acc 1 d t m) 11).map lb) (k + 1) = rows (fun t => (pd (acc 1 d t (m + 1)) 11).map lb) (k + 1) := rows_congr fun t _ => by rw [acc_neg (by rw [hs]; decide)]
        repeat (first | refine js ?_ | refine jb ?_)
        refine jr ?_
        refine jS (rt_bin_to rfl rfl (fun w => run_lti w _ _ _ _ _ _) (vbool (decide_eq_false (by first | assumption | omega)))) ?_
        refine RG.nil (by kernel_rfl) ?_
        repeat (first | refine js ?_ | refine jb ?_)
        refine WpD.condF rfl ?_
        repeat (first | refine js ?_ | refine jb ?_)
        refine WpD.exit ?_
        repeat (first | refine js ?_ | refine jb ?_)
        refine jr ?_
        refine jm rfl ?_
        refine jS (rt_bin_to rfl rfl (fun w => run_addi w _ _ _ _ _ _) (vint e2)) ?_
        refine ja rfl ?_
        refine RG.nil (by kernel_rfl) ?_
        refine ⟨⟨m + 1, by omega⟩, ?_, by dsimp only; omega⟩
        refine Sub.mk ?_ ⟨.inl ⟨_, rfl, PsLe.of_eq hz2⟩, .inl ⟨_, rfl, PsLe.of_eq hz⟩, trivial⟩
        repeat (first | exact trivial | refine jv rfl ?_ | refine jw rfl (js0 rfl) ?_ | refine jw rfl ⟨js0 rfl, js0 rfl⟩ ?_ | refine jx rfl ⟨js0 rfl, js0 rfl⟩ ?_ | refine jw rfl (clo_live (js0 rfl) (js0 rfl)) ?_ | refine ⟨⟨_, rfl, PLe.refl _⟩, trivial, ?_⟩)
  · have hmf : m = f := by omega
    subst hmf
    have hl1 : ∀ s : Int, (rows (fun j => (pd (acc s d j m) 11).map lb) (k + 1)).length = (k + 1) * 11 := fun s => rows_len (fun _ => by simp [pd_length]) _
    repeat (first | refine js ?_ | refine jb ?_)
    refine jr ?_
    refine jm rfl ?_
    refine jm rfl ?_
    refine jS (rt_bin_to rfl rfl (fun w => run_lei w _ _ _ _ _ _) (vbool (decide_eq_false (by first | assumption | omega)))) ?_
    refine RG.nil (by kernel_rfl) ?_
    repeat (first | refine js ?_ | refine jb ?_)
    refine WpD.condF rfl ?_
    repeat (first | refine js ?_ | refine jb ?_)
    refine WpD.exit ?_
    repeat (first | refine js ?_ | refine jb ?_)
    refine WpD.sub (τ := ⟨[(0, .one (ex (.int .i64 (k : Int)))), (7, .one (slc 11 (rows (fun j => (pd (acc 1 d j m) 11).map lb) (k + 1)) (k + 1))), (8, .own 22 0 (k + 1) (k + 1))], [(22, rows (fun j => (pd (acc (-1) d j m) 11).map lb) (k + 1))]⟩) ?_ ?_
    · refine Sub.pub 19 rfl rfl ?_ ?_ rfl
      · repeat (first | exact trivial | refine ⟨.inl ⟨⟨_, rfl, PLe.refl _⟩, trivial⟩, ?_⟩ | refine ⟨.inl ⟨⟨_, rfl, rfl⟩, Option.some_ne_none _⟩, ?_⟩ | refine ⟨.inl ⟨⟨_, rfl, rfl⟩, ⟨Option.some_ne_none _, Option.some_ne_none _⟩⟩, ?_⟩ | refine ⟨.inr (.inl ⟨_, _, _, _, rfl, rfl, arr_slc (hl1 1) (Nat.le_refl _)⟩), ?_⟩ | refine ⟨.inr (.inr (.inl ⟨_, _, _, rfl, rfl, arr_slc (hl1 1) (Nat.le_refl _)⟩)), ?_⟩)
      · repeat (first | exact trivial | refine jz ?_ | refine jy rfl ?_)
    refine WpD.sub (τ := ⟨[(0, .one (ex (.int .i64 (k : Int)))), (7, .one (slc 11 (rows (fun j => (pd (acc 1 d j m) 11).map lb) (k + 1)) (k + 1))), (8, .one (slc 11 (rows (fun j => (pd (acc (-1) d j m) 11).map lb) (k + 1)) (k + 1)))], []⟩) ?_ ?_
    · refine Sub.pub 22 rfl rfl ?_ ?_ rfl
      · repeat (first | exact trivial | refine ⟨.inl ⟨⟨_, rfl, PLe.refl _⟩, trivial⟩, ?_⟩ | refine ⟨.inl ⟨⟨_, rfl, rfl⟩, Option.some_ne_none _⟩, ?_⟩ | refine ⟨.inl ⟨⟨_, rfl, rfl⟩, ⟨Option.some_ne_none _, Option.some_ne_none _⟩⟩, ?_⟩ | refine ⟨.inr (.inl ⟨_, _, _, _, rfl, rfl, arr_slc (hl1 (-1)) (Nat.le_refl _)⟩), ?_⟩ | refine ⟨.inr (.inr (.inl ⟨_, _, _, rfl, rfl, arr_slc (hl1 (-1)) (Nat.le_refl _)⟩)), ?_⟩)
      · repeat (first | exact trivial | refine jz ?_ | refine jy rfl ?_)
    have hz2 : (List.replicate (k + 1) ([.bool false, .slice none 0 0].map ex)).flatten = rows (fun t => if t < 0 then zCells (psS d m t) else [ex (.bool false), ex (.slice none 0 0)]) (k + 1) := by
      generalize k + 1 = n
      induction n with
      | zero => rfl
      | succ n ih => rw [rows_succ, ← ih, List.replicate_succ', List.flatten_append, if_neg (by omega)]; congr 1
    repeat (first | refine js ?_ | refine jb ?_)
    refine jr ?_
    refine jm rfl ?_
    refine jS (rt_bin_to rfl rfl (fun w => run_addi w _ _ _ _ _ _) (vint ek)) ?_
    refine jT (ru_makeR rfl rfl rfl rfl (by omega) rfl rfl) ?_
    refine ja rfl ?_
    refine RG.nil (by kernel_rfl) ?_
    repeat (first | refine js ?_ | refine jb ?_)
    refine jr ?_
    refine jm rfl ?_
    refine jS (ru_lenO rfl CSlice.ok) ?_
    refine jm rfl ?_
    refine RG.nil (by kernel_rfl) ?_
    repeat (first | refine js ?_ | refine jb ?_)
    refine WpD.loop (α := {j : Nat // j ≤ k + 1}) (fun j => ⟨[(7, .one (slc 11 (rows (fun j => (pd (acc 1 d j m) 11).map lb) (k + 1)) (k + 1))), (8, .one (slc 11 (rows (fun j => (pd (acc (-1) d j m) 11).map lb) (k + 1)) (k + 1))), (15, .own 57 0 (k + 1) (k + 1)), (59, .one (ex (.int .i64 ((k + 1 : Nat) : Int)))), (60, .one (ex (.int .i64 (j.1 : Int))))], [(57, rows (fun t => if t < j.1 then zCells (psS d m t) else [ex (.bool false), ex (.slice none 0 0)]) (k + 1))]⟩) (fun j => k + 1 - j.1) ⟨0, Nat.zero_le _⟩ ?_ ?_
    · refine Sub.mk ?_ ⟨.inl ⟨_, rfl, PsLe.of_eq hz2⟩, trivial⟩
      repeat (first | exact trivial | refine jv rfl ?_ | refine jw rfl (js0 rfl) ?_ | refine jw rfl ⟨js0 rfl, js0 rfl⟩ ?_ | refine jx rfl ⟨js0 rfl, js0 rfl⟩ ?_ | refine jw rfl (clo_live (js0 rfl) (js0 rfl)) ?_ | refine ⟨⟨_, rfl, PLe.refl _⟩, trivial, ?_⟩)
    rintro ⟨j, hj⟩
    dsimp only at hj ⊢
    by_cases hjl : j < k + 1
    · have q1 : ((rows (fun j => (pd (acc 1 d j m) 11).map lb) (k + 1)).drop (j * 11)).take 11 = (pd (acc 1 d j m) 11).map lb := rows_get (f := fun j => (pd (acc 1 d j m) 11).map lb) (fun _ => by simp [pd_length]) hjl
      have q2 : ((rows (fun j => (pd (acc (-1) d j m) 11).map lb) (k + 1)).drop (j * 11)).take 11 = (pd (acc (-1) d j m) 11).map lb := rows_get (f := fun j => (pd (acc (-1) d j m) 11).map lb) (fun _ => by simp [pd_length]) hjl
      have p1 : ((pd (acc 1 d j m) 11).map lb).length = 11 * 1 := by simp [pd_length]
      have p2 : ((pd (acc (-1) d j m) 11).map lb).length = 11 * 1 := by simp [pd_length]
      have b3 : m * 40000 ^ j ≤ 40000 * 40000 ^ j := Nat.mul_le_mul_right _ (by omega)
      have b4 : 40000 * 40000 ^ j ≤ 40000 ^ 21 := by rw [← Nat.pow_succ']; exact Nat.pow_le_pow_right (by omega) (by omega)
      have v1 : ∀ s : Int, val (pd (acc s d j m) 11) = acc s d j m := fun s => pd_val _ _ (by have := acc_le s d (j := j) (m := m) (F := 40000) (by omega); have := big11; omega)
      have C1 := (isub En false (pd (acc 1 d j m) 11) false (pd (acc (-1) d j m) 11) (pd_lm _ _) (pd_lm _ _) (by rw [pd_length]; omega) (by rw [pd_length]; omega)).arg (ps := [aggP [ex (.bool false), slc 1 ((pd (acc 1 d j m) 11).map lb) 11], aggP [ex (.bool false), slc 1 ((pd (acc (-1) d j m) 11).map lb) 11]]) ⟨agg_two (PLe.refl _) (slc_mag (pd_length _ _) (pd_lm _ _)), agg_two (PLe.refl _) (slc_mag (pd_length _ _) (pd_lm _ _)), trivial⟩
      rw [show zv false (pd (acc 1 d j m) 11) - zv false (pd (acc (-1) d j m) 11) = psS d m j by unfold zv psS sgnZ; rw [v1, v1]; simp] at C1
      have hput : putL (rows (fun t => if t < j then zCells (psS d m t) else [ex (.bool false), ex (.slice none 0 0)]) (k + 1)) (j * 2) (zCells (psS d m j)) = rows (fun t => if t < j + 1 then zCells (psS d m t) else [ex (.bool false), ex (.slice none 0 0)]) (k + 1) := by
        refine rows_put (k := 2) (fun i => by split <;> rfl) hjl rfl (fun t _ => ?_)
        by_cases h1 : t = j
        · subst h1; rw [if_pos (by omega), if_pos rfl]
        · rw [if_neg h1]
          by_cases h2 : t < j
          · rw [if_pos h2, if_pos (by omega)]
          · rw [if_neg h2, if_neg (by omega)]
      have hl2 : j * 2 + 2 ≤ (rows (fun t => if t < j then zCells (psS d m t) else [ex (.bool false), ex (.slice none 0 0)]) (k + 1)).length := by
        rw [rows_len (k := 2) (fun i => by split <;> rfl)]; omega
      have e6 : IntKind.i64.wrap ((j : Int) + 1) = ((j + 1 : Nat) : Int) := by rw [w64 (by omega) (by omega)]; rfl

      repeat (first | refine js ?_ | refine jb ?_)
      refine jr ?_
      refine jS (rt_bin_to rfl rfl (fun w => run_lti w _ _ _ _ _ _) (vbool (decide_eq_true (by first | assumption | omega)))) ?_
      refine RG.nil (by kernel_rfl) ?_
      repeat (first | refine js ?_ | refine jb ?_)
      refine WpD.condT rfl ?_
      repeat (first | refine js ?_ | refine jb ?_)
      refine WpD.skip ?_
      repeat (first | refine js ?_ | refine jb ?_)
      refine jr ?_
      refine jm rfl ?_
      refine ja rfl ?_
      refine RG.nil (by kernel_rfl) ?_
      repeat (first | refine js ?_ | refine jb ?_)
      refine jr ?_
      refine jm rfl ?_
      refine jm rfl ?_
      refine jm rfl ?_
      refine jm rfl ?_
      refine jS (rc_indexS rfl rfl hjl q1) ?_
      refine jS (rc_sliceArr rfl rfl rfl p1) ?_
      refine jS (ru_build (ps := [(_, _)]) ⟨rfl, Part.c rfl, trivial⟩ rfl) ?_
      refine jm rfl ?_
      refine jm rfl ?_
      refine jS (rc_indexS rfl rfl hjl q2) ?_
      refine jS (rc_sliceArr rfl rfl rfl p2) ?_
      refine jS (ru_build (ps := [(_, _)]) ⟨rfl, Part.c rfl, trivial⟩ rfl) ?_
      refine jS (ru_call C1 ⟨rfl, rfl, trivial⟩) ?_
      refine jS (ru_indexR rfl rfl hjl (o' := j * 2) (by omega)) ?_
      refine jO (ru_storeRS rfl rfl rfl rfl hl2 hput) ?_
      refine RG.nil (by kernel_rfl) ?_
      repeat (first | refine js ?_ | refine jb ?_)
      refine jr ?_
      refine jS (rt_bin_to rfl rfl (fun w => run_addi w _ _ _ _ _ _) (vint e6)) ?_
      refine jm rfl ?_
      refine RG.nil (by kernel_rfl) ?_
      refine ⟨⟨j + 1, by omega⟩, ?_, by dsimp only; omega⟩
      refine Sub.mk ?_ ?_
      · repeat (first | exact trivial | refine jv rfl ?_ | refine jw rfl (js0 rfl) ?_ | refine jw rfl ⟨js0 rfl, js0 rfl⟩ ?_ | refine jx rfl ⟨js0 rfl, js0 rfl⟩ ?_ | refine jw rfl (clo_live (js0 rfl) (js0 rfl)) ?_ | refine ⟨⟨_, rfl, PLe.refl _⟩, trivial, ?_⟩)
      · repeat (first | exact trivial | refine jz ?_ | refine jy rfl ?_)
    · have hjk : j = k + 1 := by omega
      subst hjk
      have hz : rows (fun t => if t < k + 1 then zCells (psS d m t) else [ex (.bool false), ex (.slice none 0 0)]) (k + 1) = rows (fun t => zCells (psS d m t)) (k + 1) := rows_congr fun t ht => if_pos ht
      rw [hz]
      repeat (first | refine js ?_ | refine jb ?_)
      refine jr ?_
      refine jS (rt_bin_to rfl rfl (fun w => run_lti w _ _ _ _ _ _) (vbool (decide_eq_false (by first | assumption | omega)))) ?_
      refine RG.nil (by kernel_rfl) ?_
      repeat (first | refine js ?_ | refine jb ?_)
      refine WpD.condF rfl ?_
      repeat (first | refine js ?_ | refine jb ?_)
      refine WpD.exit ?_
      repeat (first | refine js ?_ | refine jb ?_)
      refine WpD.sub (τ := ⟨[(15, .one (slc 2 (rows (fun t => zCells (psS d m t)) (k + 1)) (k + 1)))], []⟩) ?_ ?_
      · refine Sub.pub 57 rfl rfl ?_ ?_ rfl
        · repeat (first | exact trivial | refine ⟨.inl ⟨⟨_, rfl, PLe.refl _⟩, trivial⟩, ?_⟩ | refine ⟨.inl ⟨⟨_, rfl, rfl⟩, Option.some_ne_none _⟩, ?_⟩ | refine ⟨.inl ⟨⟨_, rfl, rfl⟩, ⟨Option.some_ne_none _, Option.some_ne_none _⟩⟩, ?_⟩ | refine ⟨.inr (.inl ⟨_, _, _, _, rfl, rfl, arr_slc (rows_len (k := 2) (fun _ => rfl) _) (Nat.le_refl _)⟩), ?_⟩ | refine ⟨.inr (.inr (.inl ⟨_, _, _, rfl, rfl, arr_slc (rows_len (k := 2) (fun _ => rfl) _) (Nat.le_refl _)⟩)), ?_⟩)
        · repeat (first | exact trivial | refine jz ?_ | refine jy rfl ?_)
      repeat (first | refine js ?_ | refine jb ?_)
      refine jr ?_
      refine jm rfl ?_
      refine ja rfl ?_
      refine RG.nil (by kernel_rfl) ?_
      repeat (first | refine js ?_ | refine jb ?_)
      refine WpD.ret ?_
      exact ret1 rfl (.tmp rfl) (PLe.refl _)
end
end Go.Proofs.YtgbiccenhionaaaGreatDoor

/- Integers of the reference: Normalize, Neg, Mul, Quo, Gcd, Pow, Cmp. -/
import Derived.Test.YtpiflllcjgpkhaaGreatDoorZd
import Derived.Test.YtpiflllcjgpkhaaGreatDoorQ
import Derived.Test.YtpiflllcjgpkhaaGreatDoorIb
import Derived.Test.YtpiflllcjgpkhaaGreatDoorQv
set_option maxRecDepth 3000
namespace Go.Proofs.YtpiflllcjgpkhaaGreatDoor
open Go.RowKit Limb
instance cbody104 : CBody Tryz.prog 104 := ⟨⟨_, Tryz.func104, rfl, by rfl⟩⟩
instance cbody124 : CBody Tryz.prog 124 := ⟨⟨_, Tryz.func124, rfl, by rfl⟩⟩
instance cbody127 : CBody Tryz.prog 127 := ⟨⟨_, Tryz.func127, rfl, by rfl⟩⟩
section
variable (En : Ev)
theorem znorm (s : Bool) (l : List Nat) (hl : l.length ≤ 1099511627776) : Fn Tryz.prog En 109 [zR s l] (zC (zv s l)) := by
  have C1 := fmake En s l hl
  refine fn_of_body Tryz.func109 rfl Tryz.ntmps109 rfl ?_
  intro w0 h0
  repeat (first | refine js ?_ | refine jb ?_)
  refine jr ?_
  refine jT (ru_boxR rfl rfl rfl) ?_
  refine jT (ru_alloc rfl rfl rfl) ?_
  refine RG.nil (by kernel_rfl) ?_
  repeat (first | refine js ?_ | refine jb ?_)
  refine jr ?_
  refine jS (ru_fieldAddr rfl rfl) ?_
  refine jS (ru_load1 rfl rfl rfl) ?_
  refine jS (ru_fieldAddr rfl rfl) ?_
  refine jS (ru_load1 rfl rfl rfl) ?_
  refine jS (ru_call C1 ⟨rfl, rfl, trivial⟩) ?_
  refine jO (ru_storeR rfl rfl rfl rfl rfl rfl) ?_
  refine RG.nil (by kernel_rfl) ?_
  repeat (first | refine js ?_ | refine jb ?_)
  refine WpD.ret ?_
  exact ret1 rfl (.cell rfl rfl CRow.ok rfl) (PLe.refl _)
theorem zneg (s : Bool) (l : List Nat) (hl : l.length ≤ 1099511627776) : Fn Tryz.prog En 123 [zR s l] (zC (-(zv s l))) := by
  have C1 := fmake En (!s) l hl
  rw [show zv (!s) l = -(zv s l) by unfold zv sgnZ; cases s <;> simp] at C1
  refine fn_of_body Tryz.func123 rfl Tryz.ntmps123 rfl ?_
  intro w0 h0
  repeat (first | refine js ?_ | refine jb ?_)
  refine jr ?_
  refine jT (ru_boxR rfl rfl rfl) ?_
  refine jT (ru_alloc rfl rfl rfl) ?_
  refine RG.nil (by kernel_rfl) ?_
  repeat (first | refine js ?_ | refine jb ?_)
  refine jr ?_
  refine jS (ru_fieldAddr rfl rfl) ?_
  refine jS (ru_load1 rfl rfl rfl) ?_
  refine jS (rt_un rfl (fun w => run_not w _)) ?_
  refine jS (ru_fieldAddr rfl rfl) ?_
  refine jS (ru_load1 rfl rfl rfl) ?_
  refine jS (ru_call C1 ⟨rfl, rfl, trivial⟩) ?_
  refine jO (ru_storeR rfl rfl rfl rfl rfl rfl) ?_
  refine RG.nil (by kernel_rfl) ?_
  repeat (first | refine js ?_ | refine jb ?_)
  refine WpD.ret ?_
  exact ret1 rfl (.cell rfl rfl CRow.ok rfl) (PLe.refl _)
set_option maxHeartbeats 2000000 in
theorem zmul (s : Bool) (a : List Nat) (t : Bool) (b : List Nat) (hla : Lm a) (hlb : Lm b) (ha : a.length ≤ 1073741824) (hb : b.length ≤ 1073741824) :
    Fn Tryz.prog En 104 [zR s a, zR t b] (zC (zv s a * zv t b)) := by
  have e4 : IntKind.i64.wrap ((a.length : Int) + (b.length : Int)) = ((a.length + b.length : Nat) : Int) := by rw [w64 (by omega) (by omega)]; omega
  refine fn_of_body Tryz.func104 rfl Tryz.ntmps104 rfl ?_
  intro w0 h0
  repeat (first | refine js ?_ | refine jb ?_)
  refine jr ?_
  refine jT (ru_boxR rfl rfl rfl) ?_
  refine jT (ru_boxR rfl rfl rfl) ?_
  refine jT (ru_alloc rfl rfl rfl) ?_
  refine RG.nil (by kernel_rfl) ?_
  repeat (first | refine js ?_ | refine jb ?_)
  refine jr ?_
  refine jS (ru_fieldAddr rfl rfl) ?_
  refine jS (ru_load1 rfl rfl rfl) ?_
  refine jS (ru_len rfl CSlice.ok) ?_
  refine jS (ru_fieldAddr rfl rfl) ?_
  refine jS (ru_load1 rfl rfl rfl) ?_
  refine jS (ru_len rfl CSlice.ok) ?_
  refine jS (rt_bin_to rfl rfl (fun w => run_addi w _ _ _ _ _ _) (vint e4)) ?_
  refine jT (ru_make rfl rfl rfl rfl (by omega) (by omega)) ?_
  refine ja rfl ?_
  refine RG.nil (by kernel_rfl) ?_
  repeat (first | refine js ?_ | refine jb ?_)
  refine jr ?_
  refine jS (ru_fieldAddr rfl rfl) ?_
  refine jS (ru_load1 rfl rfl rfl) ?_
  refine jS (ru_len rfl CSlice.ok) ?_
  refine jm rfl ?_
  refine RG.nil (by kernel_rfl) ?_
  repeat (first | refine js ?_ | refine jb ?_)
  refine WpD.loop (α := {p : Nat × List Nat // p.1 ≤ a.length ∧ ProdInv a b p.1 p.2}) (fun p => ⟨[(2, .ptr 2 0), (3, .ptr 3 0), (4, .ptr 4 0), (5, .own 18 0 (a.length + b.length) (a.length + b.length)), (20, .one (mag a)), (21, .one (ex (.int .i64 (a.length : Int)))), (22, .one (ex (.int .i64 (p.1.1 : Int))))], [(2, [ex (.bool s), mag a]), (3, [ex (.bool t), mag b]), (4, [ex (.bool false), ex (.slice none 0 0)]), (18, (p.1.2 ++ List.replicate (a.length - p.1.1) 0).map lb)]⟩) (fun p => a.length - p.1.1) ⟨(0, List.replicate b.length 0), Nat.zero_le _, ProdInv.start a b⟩ ?_ ?_
  · have hz : List.replicate (a.length + b.length) (ex (.int .u32 0)) = (List.replicate b.length 0 ++ List.replicate (a.length - 0) 0).map lb := by
      rw [zerosL, List.replicate_append_replicate, Nat.sub_zero, Nat.add_comm]
    refine Sub.mk ?_ ⟨.inl ⟨_, rfl, PsLe.refl _⟩, .inl ⟨_, rfl, PsLe.refl _⟩, .inl ⟨_, rfl, PsLe.refl _⟩, .inl ⟨_, rfl, PsLe.of_eq hz⟩, trivial⟩
    repeat (first | exact trivial | refine jv rfl ?_ | refine jw rfl (js0 rfl) ?_ | refine jw rfl ⟨js0 rfl, js0 rfl⟩ ?_ | refine jx rfl ⟨js0 rfl, js0 rfl⟩ ?_ | refine jw rfl (clo_live (js0 rfl) (js0 rfl)) ?_ | refine ⟨⟨_, rfl, PLe.refl _⟩, trivial, ?_⟩)
  rintro ⟨⟨i, Q⟩, hi, hP⟩
  simp only at hi hP
  dsimp only
  obtain ⟨hQl, hQm, hQv⟩ := id hP
  by_cases hlt : i < a.length
  · obtain ⟨x, hx⟩ : ∃ x, a[i]? = some x := ⟨_, List.getElem?_eq_getElem hlt⟩
    have hxB := hla.get hx
    have e13 : IntKind.i64.wrap ((i : Int) + 1) = ((i + 1 : Nat) : Int) := by rw [w64 (by omega) (by omega)]; omega
    have hrep : List.replicate (a.length - i) 0 = 0 :: List.replicate (a.length - (i + 1)) 0 := by rw [show a.length - i = (a.length - (i + 1)) + 1 by omega, List.replicate_succ]
    repeat (first | refine js ?_ | refine jb ?_)
    refine jr ?_
    refine jS (rt_bin_to rfl rfl (fun w => run_lti w _ _ _ _ _ _) (vbool (decide_eq_true (by first | assumption | omega)))) ?_
    refine RG.nil (by kernel_rfl) ?_
    repeat (first | refine js ?_ | refine jb ?_)
    refine WpD.condT rfl ?_
    repeat (first | refine js ?_ | refine jb ?_)
    refine WpD.skip ?_
    repeat (first | refine js ?_ | refine jb ?_)
    refine jr ?_
    refine jm rfl ?_
    refine jS (rc_index rfl rfl (by assumption)) ?_
    refine jS (rc_load1 rfl rfl) ?_
    refine ja rfl ?_
    refine ja rfl ?_
    refine RG.nil (by kernel_rfl) ?_
    repeat (first | refine js ?_ | refine jb ?_)
    refine jr ?_
    refine ja rfl ?_
    refine RG.nil (by kernel_rfl) ?_
    repeat (first | refine js ?_ | refine jb ?_)
    refine jr ?_
    refine jS (ru_fieldAddr rfl rfl) ?_
    refine jS (ru_load1 rfl rfl rfl) ?_
    refine jS (ru_len rfl CSlice.ok) ?_
    refine jm rfl ?_
    refine RG.nil (by kernel_rfl) ?_
    repeat (first | refine js ?_ | refine jb ?_)
    refine WpD.loop (α := {p : Nat × List Nat × Nat // p.1 ≤ b.length ∧ MulInv (Q.drop i) b x p.1 p.2.1 p.2.2}) (fun p => ⟨[(2, .ptr 2 0), (3, .ptr 3 0), (4, .ptr 4 0), (5, .own 18 0 (a.length + b.length) (a.length + b.length)), (6, .one (ex (.int .i64 (i : Int)))), (7, .one (lb x)), (8, .one (ex (.int .u64 (p.1.2.2 : Int)))), (20, .one (mag a)), (21, .one (ex (.int .i64 (a.length : Int)))), (22, .one (ex (.int .i64 (i : Int)))), (28, .one (mag b)), (29, .one (ex (.int .i64 (b.length : Int)))), (30, .one (ex (.int .i64 (p.1.1 : Int))))], [(2, [ex (.bool s), mag a]), (3, [ex (.bool t), mag b]), (4, [ex (.bool false), ex (.slice none 0 0)]), (18, (Q.take i ++ (p.1.2.1 ++ ((Q.drop i).drop p.1.1 ++ List.replicate (a.length - i) 0))).map lb)]⟩) (fun p => b.length - p.1.1) ⟨(0, [], 0), Nat.zero_le _, MulInv.start _ _ _⟩ ?_ ?_
    · have hz : (Q ++ List.replicate (a.length - i) 0).map lb = (Q.take i ++ ([] ++ ((Q.drop i).drop 0 ++ List.replicate (a.length - i) 0))).map lb := by
        rw [List.drop_zero, List.nil_append, ← List.append_assoc, List.take_append_drop]
      refine Sub.mk ?_ ⟨.inl ⟨_, rfl, PsLe.refl _⟩, .inl ⟨_, rfl, PsLe.refl _⟩, .inl ⟨_, rfl, PsLe.refl _⟩, .inl ⟨_, rfl, PsLe.of_eq hz⟩, trivial⟩
      repeat (first | exact trivial | refine jv rfl ?_ | refine jw rfl (js0 rfl) ?_ | refine jw rfl ⟨js0 rfl, js0 rfl⟩ ?_ | refine jx rfl ⟨js0 rfl, js0 rfl⟩ ?_ | refine jw rfl (clo_live (js0 rfl) (js0 rfl)) ?_ | refine ⟨⟨_, rfl, PLe.refl _⟩, trivial, ?_⟩)
    rintro ⟨⟨j, N, c⟩, hj, hM⟩
    simp only at hj hM
    dsimp only
    obtain ⟨hNl, hNm, hcB, _⟩ := id hM
    have hti : (Q.take i).length = i := by simp; omega
    have hRl : (Q.drop i).length = b.length := by simp; omega
    have hRm := hQm.drop i
    have eij : IntKind.i64.wrap ((i : Int) + (j : Int)) = ((i + j : Nat) : Int) := by rw [w64 (by omega) (by omega)]; omega
    by_cases hjb : j < b.length
    · obtain ⟨y, hy⟩ : ∃ y, b[j]? = some y := ⟨_, List.getElem?_eq_getElem hjb⟩
      obtain ⟨r, hr⟩ : ∃ r, (Q.drop i)[j]? = some r := ⟨_, List.getElem?_eq_getElem (by omega)⟩
      have hyB := hlb.get hy
      have hrB := hRm.get hr
      obtain ⟨m1, m2⟩ := mul_bd hcB hxB hyB hrB
      have hM' := MulInv.step hxB hRm hlb hy hr hM
      rw [B_def] at hxB hyB hrB hcB m1
      have e2 : IntKind.u64.wrap (x : Int) = (x : Int) := wu64 (by omega) (by omega)
      have e4' : IntKind.u64.wrap (y : Int) = (y : Int) := wu64 (by omega) (by omega)
      have e5' : IntKind.u64.wrap ((x : Int) * (y : Int)) = ((x * y : Nat) : Int) := by rw [← Int.natCast_mul]; exact wu64 (by omega) (by omega)
      have e10 : IntKind.u64.wrap (r : Int) = (r : Int) := wu64 (by omega) (by omega)
      have e11 : IntKind.u64.wrap (((x * y : Nat) : Int) + (r : Int)) = ((x * y + r : Nat) : Int) := by rw [wu64 (by omega) (by omega)]; omega
      have e12 : IntKind.u64.wrap ((c : Int) + ((x * y + r : Nat) : Int)) = ((c + (x * y + r) : Nat) : Int) := by rw [wu64 (by omega) (by omega)]; omega
      have hdr : (Q.drop i).drop j = r :: (Q.drop i).drop (j + 1) := by rw [List.drop_eq_getElem_cons (by omega : j < (Q.drop i).length), (List.getElem?_eq_some_iff.1 hr).2]
      have hget : ((Q.take i ++ (N ++ ((Q.drop i).drop j ++ List.replicate (a.length - i) 0))).map lb)[i + j]? = some (lb r) := by
        refine getL ?_
        rw [List.getElem?_append_right (by omega), hti, List.getElem?_append_right (by omega), hNl, hdr, show i + j - i - j = 0 by omega]
        rfl
      have hidx : i + j < a.length + b.length := by omega
      have hsetl : i + j < ((Q.take i ++ (N ++ ((Q.drop i).drop j ++ List.replicate (a.length - i) 0))).map lb).length := by simp only [List.length_map, List.length_append, hti, hNl, List.length_drop, List.length_replicate]; omega
      have hset : ((Q.take i ++ (N ++ ((Q.drop i).drop j ++ List.replicate (a.length - i) 0))).map lb).set (i + j) (ex (.int .u32 (((c + (x * y + r)) % B : Nat) : Int))) = (Q.take i ++ ((N ++ [(c + (x * y + r)) % B]) ++ ((Q.drop i).drop (j + 1) ++ List.replicate (a.length - i) 0))).map lb := by
        rw [hdr]
        have := setL (Q.take i ++ N) ((Q.drop i).drop (j + 1) ++ List.replicate (a.length - i) 0) r ((c + (x * y + r)) % B)
        rw [List.length_append, hti, hNl] at this
        simp only [List.append_assoc, List.cons_append, List.nil_append] at this ⊢
        exact this
      have e16 : IntKind.i64.wrap ((j : Int) + 1) = ((j + 1 : Nat) : Int) := by rw [w64 (by omega) (by omega)]; omega
      repeat (first | refine js ?_ | refine jb ?_)
      refine jr ?_
      refine jS (rt_bin_to rfl rfl (fun w => run_lti w _ _ _ _ _ _) (vbool (decide_eq_true (by first | assumption | omega)))) ?_
      refine RG.nil (by kernel_rfl) ?_
      repeat (first | refine js ?_ | refine jb ?_)
      refine WpD.condT rfl ?_
      repeat (first | refine js ?_ | refine jb ?_)
      refine WpD.skip ?_
      repeat (first | refine js ?_ | refine jb ?_)
      refine jr ?_
      refine jm rfl ?_
      refine jS (rc_index rfl rfl (by assumption)) ?_
      refine jS (rc_load1 rfl rfl) ?_
      refine ja rfl ?_
      refine ja rfl ?_
      refine RG.nil (by kernel_rfl) ?_
      repeat (first | refine js ?_ | refine jb ?_)
      refine jr ?_
      refine jm rfl ?_
      refine jm rfl ?_
      refine jS (rt_conv_to rfl (fun w => run_convi w CInt.ok CInt.ok _ _) (vint e2)) ?_
      refine jm rfl ?_
      refine jS (rt_conv_to rfl (fun w => run_convi w CInt.ok CInt.ok _ _) (vint e4')) ?_
      refine jS (rt_bin_to rfl rfl (fun w => run_muli w _ _ _ _ _ _) (vint e5')) ?_
      refine jm rfl ?_
      refine jm rfl ?_
      refine jm rfl ?_
      refine jS (rt_bin_to rfl rfl (fun w => run_addi w _ _ _ _ _ _) (vint eij)) ?_
      refine jS (ru_index0 rfl rfl (by first | assumption | omega)) ?_
      refine jS (ru_load1 rfl rfl (by assumption)) ?_
      refine jS (rt_conv_to rfl (fun w => run_convi w CInt.ok CInt.ok _ _) (vint e10)) ?_
      refine jS (rt_bin_to rfl rfl (fun w => run_addi w _ _ _ _ _ _) (vint e11)) ?_
      refine jS (rt_bin_to rfl rfl (fun w => run_addi w _ _ _ _ _ _) (vint e12)) ?_
      refine ja rfl ?_
      refine RG.nil (by kernel_rfl) ?_
      repeat (first | refine js ?_ | refine jb ?_)
      refine jr ?_
      refine jm rfl ?_
      refine jm rfl ?_
      refine jm rfl ?_
      refine jS (rt_bin_to rfl rfl (fun w => run_addi w _ _ _ _ _ _) (vint eij)) ?_
      refine jm rfl ?_
      refine jS (rt_conv_to rfl (fun w => run_convi w CInt.ok CInt.ok _ _) (vint (u32w _))) ?_
      refine jS (ru_index0 rfl rfl (by first | assumption | omega)) ?_
      refine jO (ru_set1 rfl rfl rfl (by assumption) (by assumption)) ?_
      refine RG.nil (by kernel_rfl) ?_
      repeat (first | refine js ?_ | refine jb ?_)
      refine jr ?_
      refine jm rfl ?_
      refine jS (rt_bin_to rfl rfl (fun w => run_shri w _ _ _ _ _ _ _ (by first | decide | omega | assumption)) (vint (shr32 _))) ?_
      refine ja rfl ?_
      refine RG.nil (by kernel_rfl) ?_
      repeat (first | refine js ?_ | refine jb ?_)
      refine jr ?_
      refine jS (rt_bin_to rfl rfl (fun w => run_addi w _ _ _ _ _ _) (vint e16)) ?_
      refine jm rfl ?_
      refine RG.nil (by kernel_rfl) ?_
      refine ⟨⟨(j + 1, N ++ [(c + (x * y + r)) % B], (c + (x * y + r)) / B), hjb, hM'⟩, ?_, by simp only; omega⟩
      refine Sub.mk ?_ ?_
      · repeat (first | exact trivial | refine jv rfl ?_ | refine jw rfl (js0 rfl) ?_ | refine jw rfl ⟨js0 rfl, js0 rfl⟩ ?_ | refine jx rfl ⟨js0 rfl, js0 rfl⟩ ?_ | refine jw rfl (clo_live (js0 rfl) (js0 rfl)) ?_ | refine ⟨⟨_, rfl, PLe.refl _⟩, trivial, ?_⟩)
      · repeat (first | exact trivial | refine jz ?_ | refine jy rfl ?_)
    · have hjb' : j = b.length := by omega
      subst hjb'
      have hdr : (Q.drop i).drop b.length = [] := List.drop_eq_nil_of_le (by omega)
      have hcw : ((c % B : Nat) : Int) = (c : Int) := by rw [Nat.mod_eq_of_lt hcB]
      have hidx : i + b.length < a.length + b.length := by omega
      have hsetl : i + b.length < ((Q.take i ++ (N ++ ((Q.drop i).drop b.length ++ List.replicate (a.length - i) 0))).map lb).length := by simp only [List.length_map, List.length_append, hti, hNl, List.length_drop, List.length_replicate]; omega
      have hset : ((Q.take i ++ (N ++ ((Q.drop i).drop b.length ++ List.replicate (a.length - i) 0))).map lb).set (i + b.length) (ex (.int .u32 (c : Int))) = ((Q.take i ++ N ++ [c]) ++ List.replicate (a.length - (i + 1)) 0).map lb := by
        rw [hdr, hrep]
        have := setL (Q.take i ++ N) (List.replicate (a.length - (i + 1)) 0) 0 c
        rw [List.length_append, hti, hNl] at this
        simp only [List.append_assoc, List.cons_append, List.nil_append] at this ⊢
        exact this
      repeat (first | refine js ?_ | refine jb ?_)
      refine jr ?_
      refine jS (rt_bin_to rfl rfl (fun w => run_lti w _ _ _ _ _ _) (vbool (decide_eq_false (by first | assumption | omega)))) ?_
      refine RG.nil (by kernel_rfl) ?_
      repeat (first | refine js ?_ | refine jb ?_)
      refine WpD.condF rfl ?_
      repeat (first | refine js ?_ | refine jb ?_)
      refine WpD.exit ?_
      repeat (first | refine js ?_ | refine jb ?_)
      refine jr ?_
      refine jm rfl ?_
      refine jm rfl ?_
      refine jS (ru_fieldAddr rfl rfl) ?_
      refine jS (ru_load1 rfl rfl rfl) ?_
      refine jS (ru_len rfl CSlice.ok) ?_
      refine jS (rt_bin_to rfl rfl (fun w => run_addi w _ _ _ _ _ _) (vint eij)) ?_
      refine jm rfl ?_
      refine jS (rt_conv_to rfl (fun w => run_convi w CInt.ok CInt.ok _ _) (vint ((u32w _).trans hcw))) ?_
      refine jS (ru_index0 rfl rfl (by first | assumption | omega)) ?_
      refine jO (ru_set1 rfl rfl rfl (by assumption) (by assumption)) ?_
      refine RG.nil (by kernel_rfl) ?_
      repeat (first | refine js ?_ | refine jb ?_)
      refine jr ?_
      refine jS (rt_bin_to rfl rfl (fun w => run_addi w _ _ _ _ _ _) (vint e13)) ?_
      refine jm rfl ?_
      refine RG.nil (by kernel_rfl) ?_
      refine ⟨⟨(i + 1, Q.take i ++ N ++ [c]), hlt, hP.step hx hM⟩, ?_, by simp only; omega⟩
      refine Sub.mk ?_ ?_
      · repeat (first | exact trivial | refine jv rfl ?_ | refine jw rfl (js0 rfl) ?_ | refine jw rfl ⟨js0 rfl, js0 rfl⟩ ?_ | refine jx rfl ⟨js0 rfl, js0 rfl⟩ ?_ | refine jw rfl (clo_live (js0 rfl) (js0 rfl)) ?_ | refine ⟨⟨_, rfl, PLe.refl _⟩, trivial, ?_⟩)
      · repeat (first | exact trivial | refine jz ?_ | refine jy rfl ?_)
  · have hia : i = a.length := by omega
    subst hia
    obtain ⟨d1, d2⟩ := hP.done
    have C1 := fmake En (s != t) Q (by omega)
    rw [show zv (s != t) Q = zv s a * zv t b by unfold zv; rw [d2, sgnZ_mul]] at C1
    rw [Nat.sub_self, List.replicate_zero, List.append_nil]
    repeat (first | refine js ?_ | refine jb ?_)
    refine jr ?_
    refine jS (rt_bin_to rfl rfl (fun w => run_lti w _ _ _ _ _ _) (vbool (decide_eq_false (by first | assumption | omega)))) ?_
    refine RG.nil (by kernel_rfl) ?_
    repeat (first | refine js ?_ | refine jb ?_)
    refine WpD.condF rfl ?_
    repeat (first | refine js ?_ | refine jb ?_)
    refine WpD.exit ?_
    repeat (first | refine js ?_ | refine jb ?_)
    refine WpD.sub (τ := ⟨[(2, .ptr 2 0), (3, .ptr 3 0), (4, .ptr 4 0), (5, .one (mag Q))], [(2, [ex (.bool s), mag a]), (3, [ex (.bool t), mag b]), (4, [ex (.bool false), ex (.slice none 0 0)])]⟩) ?_ ?_
    · refine Sub.pub 18 rfl rfl ?_ ?_ rfl
      · repeat (first | exact trivial | refine ⟨.inl ⟨⟨_, rfl, PLe.refl _⟩, trivial⟩, ?_⟩ | refine ⟨.inl ⟨⟨_, rfl, rfl⟩, Option.some_ne_none _⟩, ?_⟩ | refine ⟨.inl ⟨⟨_, rfl, rfl⟩, ⟨Option.some_ne_none _, Option.some_ne_none _⟩⟩, ?_⟩ | refine ⟨.inr (.inl ⟨_, _, _, _, rfl, rfl, by rw [← hQl]; exact arr_mag0 (Nat.le_refl _) d1⟩), ?_⟩ | refine ⟨.inr (.inr (.inl ⟨_, _, _, rfl, rfl, by rw [← hQl]; exact arr_mag0 (Nat.le_refl _) d1⟩)), ?_⟩)
      · repeat (first | exact trivial | refine jz ?_ | refine jy rfl ?_)
    repeat (first | refine js ?_ | refine jb ?_)
    refine jr ?_
    refine jS (ru_fieldAddr rfl rfl) ?_
    refine jS (ru_load1 rfl rfl rfl) ?_
    refine jS (ru_fieldAddr rfl rfl) ?_
    refine jS (ru_load1 rfl rfl rfl) ?_
    refine jS (rt_bin rfl rfl (fun w => run_neb w CBool.ok _ _ _ _)) ?_
    refine jm rfl ?_
    refine jS (ru_call C1 ⟨rfl, rfl, trivial⟩) ?_
    refine jO (ru_storeR rfl rfl rfl rfl rfl rfl) ?_
    refine RG.nil (by kernel_rfl) ?_
    repeat (first | refine js ?_ | refine jb ?_)
    refine WpD.ret ?_
    exact ret1 rfl (.cell rfl rfl CRow.ok rfl) (PLe.refl _)
theorem zquo (s : Bool) (l : List Nat) (s' : Bool) (l' : List Nat) (hl : l.length ≤ 536870912) (hl' : l'.length ≤ 536870912) (hlm : Lm l) (hlm' : Lm l') (hy : zv s' l' ≠ 0) :
    Fn Tryz.prog En 125 [zR s l, zR s' l'] (zC (zv s l / zv s' l')) := by
  have C1 := fdivmod En s l s' l' hl hl' hlm hlm' hy
  refine fn_of_body Tryz.func125 rfl Tryz.ntmps125 rfl ?_
  intro w0 h0
  repeat (first | refine js ?_ | refine jb ?_)
  refine jr ?_
  refine jT (ru_boxR rfl rfl rfl) ?_
  refine jT (ru_boxR rfl rfl rfl) ?_
  refine jT (ru_alloc rfl rfl rfl) ?_
  refine RG.nil (by kernel_rfl) ?_
  repeat (first | refine js ?_ | refine jb ?_)
  refine jr ?_
  refine jS (ru_loadR rfl rfl rfl rfl) ?_
  refine jS (ru_loadR rfl rfl rfl rfl) ?_
  refine jS (ru_call C1 ⟨rfl, rfl, trivial⟩) ?_
  refine jm rfl ?_
  refine jS (rt_extract rfl rfl) ?_
  refine jS (rt_extract rfl rfl) ?_
  refine jS (rt_extract rfl rfl) ?_
  refine jT (ru_alloc rfl rfl rfl) ?_
  refine jT (ru_alloc rfl rfl rfl) ?_
  refine jO (ru_storeR rfl rfl rfl rfl rfl rfl) ?_
  refine jO (ru_storeR rfl rfl rfl rfl rfl rfl) ?_
  refine ja rfl ?_
  refine RG.nil (by kernel_rfl) ?_
  repeat (first | refine js ?_ | refine jb ?_)
  refine jr ?_
  refine jS (ru_loadR rfl rfl rfl rfl) ?_
  refine jO (ru_storeR rfl rfl rfl rfl rfl rfl) ?_
  refine RG.nil (by kernel_rfl) ?_
  repeat (first | refine js ?_ | refine jb ?_)
  refine WpD.ret ?_
  exact ret1 rfl (.cell rfl rfl CRow.ok rfl) (PLe.refl _)
theorem sg3_ne {z : Int} (h : z ≠ 0) : sg3 z ≠ 0 := by unfold sg3; rw [if_neg h]; split <;> decide
set_option maxHeartbeats 1000000 in
theorem zgcd (s : Bool) (l : List Nat) (s' : Bool) (l' : List Nat) (hl : Lm l) (hl' : Lm l') (hlen : l.length ≤ 536870912) (hlen' : l'.length ≤ 536870912) :
    Fn Tryz.prog En 124 [zR s l, zR s' l'] (zC (Nat.gcd (zv s l).natAbs (zv s' l').natAbs : Nat)) := by
  have C1 := fabs En s l (by omega)
  have C2 := fabs En s' l' (by omega)
  have D1 := zl_zv s hl
  have D2 := zl_zv s' hl'
  unfold zl at D1 D2
  refine fn_of_body Tryz.func124 rfl Tryz.ntmps124 rfl ?_
  intro w0 h0
  repeat (first | refine js ?_ | refine jb ?_)
  refine jr ?_
  refine jT (ru_boxR rfl rfl rfl) ?_
  refine jT (ru_boxR rfl rfl rfl) ?_
  refine jT (ru_alloc rfl rfl rfl) ?_
  refine RG.nil (by kernel_rfl) ?_
  repeat (first | refine js ?_ | refine jb ?_)
  refine jr ?_
  refine jS (ru_loadR rfl rfl rfl rfl) ?_
  refine jS (ru_call C1 ⟨rfl, trivial⟩) ?_
  refine jS (ru_loadR rfl rfl rfl rfl) ?_
  refine jS (ru_call C2 ⟨rfl, trivial⟩) ?_
  refine jT (ru_alloc rfl rfl rfl) ?_
  refine jT (ru_alloc rfl rfl rfl) ?_
  refine jO (ru_storeR rfl rfl rfl rfl rfl rfl) ?_
  refine jO (ru_storeR rfl rfl rfl rfl rfl rfl) ?_
  refine RG.nil (by kernel_rfl) ?_
  repeat (first | refine js ?_ | refine jb ?_)
  refine WpD.loop (α := {p : Nat × Nat // Nat.gcd p.1 p.2 = Nat.gcd (zv s l).natAbs (zv s' l').natAbs ∧ (digs p.1).length ≤ 536870912 ∧ (digs p.2).length ≤ 536870912})
    (fun p => ⟨[(4, .ptr 4 0), (5, .ptr 5 0), (6, .ptr 6 0)], [(4, [ex (.bool false), ex (.slice none 0 0)]), (5, zCells p.1.1), (6, zCells p.1.2)]⟩) (fun p => p.1.2) ⟨((zv s l).natAbs, (zv s' l').natAbs), rfl, by dsimp only; omega, by dsimp only; omega⟩ ?_ ?_
  · refine Sub.mk ?_ ?_
    · repeat (first | exact trivial | refine jv rfl ?_ | refine jw rfl (js0 rfl) ?_ | refine jw rfl ⟨js0 rfl, js0 rfl⟩ ?_ | refine jx rfl ⟨js0 rfl, js0 rfl⟩ ?_ | refine jw rfl (clo_live (js0 rfl) (js0 rfl)) ?_ | refine ⟨⟨_, rfl, PLe.refl _⟩, trivial, ?_⟩)
    · repeat (first | exact trivial | refine jz ?_ | refine jy rfl ?_)
  rintro ⟨⟨x, y⟩, hg, hx, hy⟩
  dsimp only at hg hx hy ⊢
  have C3 := csign En (y : Int) (Nat.le_trans hy (by omega))
  by_cases hy0 : y = 0
  · subst hy0
    have hgx : x = Nat.gcd (zv s l).natAbs (zv s' l').natAbs := by rw [← hg]; simp
    rw [← hgx]
    have h0 : sg3 ((0 : Nat) : Int) = 0 := rfl
    repeat (first | refine js ?_ | refine jb ?_)
    refine jr ?_
    refine jS (ru_loadR rfl rfl rfl rfl) ?_
    refine jS (ru_call C3 ⟨rfl, trivial⟩) ?_
    refine jS (rt_bin_to rfl rfl (fun w => run_nei w _ _ _ _ _ _) (vbool (bneF (by first | assumption | omega)))) ?_
    refine RG.nil (by kernel_rfl) ?_
    repeat (first | refine js ?_ | refine jb ?_)
    refine WpD.condF rfl ?_
    repeat (first | refine js ?_ | refine jb ?_)
    refine WpD.exit ?_
    repeat (first | refine js ?_ | refine jb ?_)
    refine jr ?_
    refine jS (ru_loadR rfl rfl rfl rfl) ?_
    refine jO (ru_storeR rfl rfl rfl rfl rfl rfl) ?_
    refine RG.nil (by kernel_rfl) ?_
    repeat (first | refine js ?_ | refine jb ?_)
    refine WpD.ret ?_
    exact ret1 rfl (.cell rfl rfl CRow.ok rfl) (PLe.refl _)
  · have h0 : sg3 ((y : Nat) : Int) ≠ 0 := sg3_ne (by omega)
    have C4 := crem En (x : Int) (y : Int) hx hy (by omega)
    rw [show (x : Int) % (y : Int) = ((x % y : Nat) : Int) from rfl] at C4
    have hlt := Nat.mod_lt x (Nat.pos_of_ne_zero hy0)
    repeat (first | refine js ?_ | refine jb ?_)
    refine jr ?_
    refine jS (ru_loadR rfl rfl rfl rfl) ?_
    refine jS (ru_call C3 ⟨rfl, trivial⟩) ?_
    refine jS (rt_bin_to rfl rfl (fun w => run_nei w _ _ _ _ _ _) (vbool (bneT (by first | assumption | omega)))) ?_
    refine RG.nil (by kernel_rfl) ?_
    repeat (first | refine js ?_ | refine jb ?_)
    refine WpD.condT rfl ?_
    repeat (first | refine js ?_ | refine jb ?_)
    refine WpD.skip ?_
    repeat (first | refine js ?_ | refine jb ?_)
    refine jr ?_
    refine jS (ru_loadR rfl rfl rfl rfl) ?_
    refine jS (ru_loadR rfl rfl rfl rfl) ?_
    refine jS (ru_loadR rfl rfl rfl rfl) ?_
    refine jS (ru_call C4 ⟨rfl, rfl, trivial⟩) ?_
    refine jO (ru_storeR rfl rfl rfl rfl rfl rfl) ?_
    refine jO (ru_storeR rfl rfl rfl rfl rfl rfl) ?_
    refine RG.nil (by kernel_rfl) ?_
    refine ⟨⟨(y, x % y), by dsimp only; rw [← hg, Nat.gcd_comm x y, Nat.gcd_rec y x, Nat.gcd_comm], hy, Nat.le_trans (digs_mono (Nat.le_of_lt hlt)) hy⟩, ?_, hlt⟩
    refine Sub.mk ?_ ?_
    · repeat (first | exact trivial | refine jv rfl ?_ | refine jw rfl (js0 rfl) ?_ | refine jw rfl ⟨js0 rfl, js0 rfl⟩ ?_ | refine jx rfl ⟨js0 rfl, js0 rfl⟩ ?_ | refine jw rfl (clo_live (js0 rfl) (js0 rfl)) ?_ | refine ⟨⟨_, rfl, PLe.refl _⟩, trivial, ?_⟩)
    · repeat (first | exact trivial | refine jz ?_ | refine jy rfl ?_)
theorem zpow (s : Bool) (l : List Nat) (n : Nat) (hl : Lm l) (hlen : l.length ≤ 8388608) (hn : n ≤ 64) :
    Fn Tryz.prog En 127 [zR s l, ex (.int .i64 (n : Int))] (tupP [zC (zv s l ^ n), ex (.bool true)]) := by
  have C1 := fsmall En 1 (by omega) (by omega)
  have D1 := zl_zv s hl
  refine fn_of_body Tryz.func127 rfl Tryz.ntmps127 rfl ?_
  intro w0 h0
  repeat (first | refine js ?_ | refine jb ?_)
  refine jr ?_
  refine jT (ru_boxR rfl rfl rfl) ?_
  refine jT (ru_alloc rfl rfl rfl) ?_
  refine ja rfl ?_
  refine RG.nil (by kernel_rfl) ?_
  repeat (first | refine js ?_ | refine jb ?_)
  refine jr ?_
  refine jm rfl ?_
  refine jS (rt_bin_to rfl rfl (fun w => run_lti w _ _ _ _ _ _) (vbool (decide_eq_false (by first | assumption | omega)))) ?_
  refine jm rfl ?_
  refine RG.S0 (LT.run rfl rfl rfl (rt_move rfl)) ?_
  refine RG.S0 (LT.run rfl rfl rfl (rt_bin_to rfl rfl (fun w => run_gti w _ _ _ _ _ _) (vbool (decide_eq_false (by first | assumption | omega))))) ?_
  refine jS (rt_pick_false rfl rfl) ?_
  refine RG.nil (by kernel_rfl) ?_
  repeat (first | refine js ?_ | refine jb ?_)
  refine WpD.condF rfl ?_
  repeat (first | refine js ?_ | refine jb ?_)
  refine WpD.skip ?_
  repeat (first | refine js ?_ | refine jb ?_)
  refine jr ?_
  refine jS (ru_call C1 ⟨rfl, trivial⟩) ?_
  refine jT (ru_alloc rfl rfl rfl) ?_
  refine jO (ru_storeR rfl rfl rfl rfl rfl rfl) ?_
  refine RG.nil (by kernel_rfl) ?_
  repeat (first | refine js ?_ | refine jb ?_)
  refine jr ?_
  refine ja rfl ?_
  refine RG.nil (by kernel_rfl) ?_
  repeat (first | refine js ?_ | refine jb ?_)
  refine WpD.loop (α := {p : Nat // p ≤ n ∧ zl (zv s l ^ p) ≤ p * 8388608 + 1}) (fun p => ⟨[(1, .one (ex (.int .i64 (n : Int)))), (2, .ptr 2 0), (4, .ptr 4 0), (6, .ptr 6 0), (7, .one (ex (.int .i64 (p.1 : Int))))], [(2, [ex (.bool s), mag l]), (4, [ex (.bool false), ex (.slice none 0 0)]), (6, zCells (zv s l ^ p.1))]⟩) (fun p => n - p.1) ⟨0, Nat.zero_le _, by rw [Int.pow_zero]; decide⟩ ?_ ?_
  · dsimp only
    rw [Int.pow_zero]
    refine Sub.mk ?_ ?_
    · repeat (first | exact trivial | refine jv rfl ?_ | refine jw rfl (js0 rfl) ?_ | refine jw rfl ⟨js0 rfl, js0 rfl⟩ ?_ | refine jx rfl ⟨js0 rfl, js0 rfl⟩ ?_ | refine jw rfl (clo_live (js0 rfl) (js0 rfl)) ?_ | refine ⟨⟨_, rfl, PLe.refl _⟩, trivial, ?_⟩)
    · repeat (first | exact trivial | refine jz ?_ | refine jy rfl ?_)
  rintro ⟨i, hi, hz⟩
  dsimp only at hi hz ⊢
  by_cases hlt : i < n
  · have e6 : IntKind.i64.wrap ((i : Int) + 1) = ((i + 1 : Nat) : Int) := by rw [w64 (by omega) (by omega)]; rfl
    have hmm : i * 8388608 ≤ 536870912 := by omega
    have hz2 : (digs (zv s l ^ i).natAbs).length ≤ 1073741824 := by unfold zl at hz; omega
    have C2 := zmul En (decide (zv s l ^ i < 0)) (digs (zv s l ^ i).natAbs) s l (lm_digs _) hl hz2 (by omega)
    rw [zv_C, ← Int.pow_succ] at C2
    have hz' : zl (zv s l ^ (i + 1)) ≤ (i + 1) * 8388608 + 1 := by
      have := zl_mul (zv s l ^ i) (zv s l)
      rw [Int.pow_succ]; omega
    repeat (first | refine js ?_ | refine jb ?_)
    refine jr ?_
    refine jm rfl ?_
    refine jm rfl ?_
    refine jS (rt_bin_to rfl rfl (fun w => run_lti w _ _ _ _ _ _) (vbool (decide_eq_true (by first | assumption | omega)))) ?_
    refine RG.nil (by kernel_rfl) ?_
    repeat (first | refine js ?_ | refine jb ?_)
    refine WpD.condT rfl ?_
    repeat (first | refine js ?_ | refine jb ?_)
    refine WpD.skip ?_
    repeat (first | refine js ?_ | refine jb ?_)
    refine jr ?_
    refine jS (ru_loadR rfl rfl rfl rfl) ?_
    refine jS (ru_loadR rfl rfl rfl rfl) ?_
    refine jS (ru_call C2 ⟨rfl, rfl, trivial⟩) ?_
    refine jO (ru_storeR rfl rfl rfl rfl rfl rfl) ?_
    refine RG.nil (by kernel_rfl) ?_
    repeat (first | refine js ?_ | refine jb ?_)
    refine jr ?_
    refine jm rfl ?_
    refine jS (rt_bin_to rfl rfl (fun w => run_addi w _ _ _ _ _ _) (vint e6)) ?_
    refine ja rfl ?_
    refine RG.nil (by kernel_rfl) ?_
    refine ⟨⟨i + 1, by omega, hz'⟩, ?_, by dsimp only; omega⟩
    refine Sub.mk ?_ ?_
    · repeat (first | exact trivial | refine jv rfl ?_ | refine jw rfl (js0 rfl) ?_ | refine jw rfl ⟨js0 rfl, js0 rfl⟩ ?_ | refine jx rfl ⟨js0 rfl, js0 rfl⟩ ?_ | refine jw rfl (clo_live (js0 rfl) (js0 rfl)) ?_ | refine ⟨⟨_, rfl, PLe.refl _⟩, trivial, ?_⟩)
    · repeat (first | exact trivial | refine jz ?_ | refine jy rfl ?_)
  · have : i = n := by omega
    subst this
    repeat (first | refine js ?_ | refine jb ?_)
    refine jr ?_
    refine jm rfl ?_
    refine jm rfl ?_
    refine jS (rt_bin_to rfl rfl (fun w => run_lti w _ _ _ _ _ _) (vbool (decide_eq_false (by first | assumption | omega)))) ?_
    refine RG.nil (by kernel_rfl) ?_
    repeat (first | refine js ?_ | refine jb ?_)
    refine WpD.condF rfl ?_
    repeat (first | refine js ?_ | refine jb ?_)
    refine WpD.exit ?_
    repeat (first | refine js ?_ | refine jb ?_)
    refine jr ?_
    refine jS (ru_loadR rfl rfl rfl rfl) ?_
    refine jO (ru_storeR rfl rfl rfl rfl rfl rfl) ?_
    refine ja rfl ?_
    refine RG.nil (by kernel_rfl) ?_
    repeat (first | refine js ?_ | refine jb ?_)
    refine WpD.ret ?_
    exact ret2 rfl (.cell rfl rfl CRow.ok rfl) (.tmp rfl) (PLe.refl _)
end
end Go.Proofs.YtpiflllcjgpkhaaGreatDoor

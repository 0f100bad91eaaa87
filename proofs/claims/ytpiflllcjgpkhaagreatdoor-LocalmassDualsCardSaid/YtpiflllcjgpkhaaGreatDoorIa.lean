/- Integers of the program: build, Small, Sign, Int64, Mul, DivMod. -/
import Derived.Test.YtpiflllcjgpkhaaGreatDoorIz
import Derived.Test.YtpiflllcjgpkhaaGreatDoorO
set_option maxRecDepth 3000
namespace Go.Proofs.YtpiflllcjgpkhaaGreatDoor
open Go.RowKit Limb
instance : CRow Tryz.prog 25 2 := ⟨⟨_, Tryz.underlying25, rfl, by kernel_rfl⟩⟩
instance : CField Tryz.prog 25 0 0 := ⟨⟨_, _, Tryz.underlying25, rfl, rfl, by kernel_rfl⟩⟩
instance : CField Tryz.prog 25 1 1 := ⟨⟨_, _, Tryz.underlying25, rfl, rfl, by kernel_rfl⟩⟩
instance : CFieldT Tryz.prog 25 0 0 4 := ⟨⟨_, _, Tryz.underlying25, rfl, rfl, rfl⟩⟩
instance : CFieldT Tryz.prog 25 1 1 23 := ⟨⟨_, _, Tryz.underlying25, rfl, rfl, rfl⟩⟩
theorem zero_int : ZeroOf Tryz.prog 25 [.bool false, .slice none 0 0] := ⟨by kernel_rfl, by simp [Value.oneCell']⟩
instance : CZero Tryz.prog 25 [.bool false, .slice none 0 0] := ⟨zero_int⟩
instance : CStruct Tryz.prog 25 [(0, 1), (1, 1)] [.bool false, .slice none 0 0] := ⟨⟨zero_int, _, Tryz.underlying25, fun _ => by kernel_rfl⟩⟩
instance cbody94 : CBody Tryz.prog 94 := ⟨⟨_, Tryz.func94, rfl, by rfl⟩⟩
instance cbody61 : CBody Tryz.prog 61 := ⟨⟨_, Tryz.func61, rfl, by rfl⟩⟩
instance cbody88 : CBody Tryz.prog 88 := ⟨⟨_, Tryz.func88, rfl, by rfl⟩⟩
instance cbody89 : CBody Tryz.prog 89 := ⟨⟨_, Tryz.func89, rfl, by rfl⟩⟩
instance cbody92 : CBody Tryz.prog 92 := ⟨⟨_, Tryz.func92, rfl, by rfl⟩⟩
section
variable (En : Ev)
theorem ibuild (s : Bool) (n : Nat) : Fn Tryz.prog En 94 [ex (.bool s), mag (digs n)] (zC (sgnZ s n)) := by
  have hb := digs_len0 n
  by_cases hn : n = 0
  · subst hn
    have e : sgnZ s 0 = 0 := by unfold sgnZ; cases s <;> rfl
    rw [e]
    rw [decide_eq_true rfl] at hb
    refine fn_of_body Tryz.func94 rfl Tryz.ntmps94 rfl ?_
    intro w0 h0
    repeat (first | refine js ?_ | refine jb ?_)
    refine jr ?_
    refine jT (ru_alloc rfl rfl rfl) ?_
    refine RG.nil (by kernel_rfl) ?_
    repeat (first | refine js ?_ | refine jb ?_)
    refine jr ?_
    refine jm rfl ?_
    refine jS (ru_len rfl CSlice.ok) ?_
    refine jS (rt_bin_to rfl rfl (fun w => run_eqi w _ _ _ _ _ _) (vbool hb)) ?_
    refine RG.nil (by kernel_rfl) ?_
    repeat (first | refine js ?_ | refine jb ?_)
    refine WpD.condT rfl ?_
    repeat (first | refine js ?_ | refine jb ?_)
    refine jr ?_
    refine jS (ru_build (ps := []) trivial rfl) ?_
    refine jO (ru_storeR rfl rfl rfl rfl rfl rfl) ?_
    refine RG.nil (by kernel_rfl) ?_
    repeat (first | refine js ?_ | refine jb ?_)
    refine WpD.ret ?_
    exact ret1 rfl (.cell rfl rfl CRow.ok rfl) zC_nil
  · rw [decide_eq_false hn] at hb
    rw [zC_sgn hn]
    refine fn_of_body Tryz.func94 rfl Tryz.ntmps94 rfl ?_
    intro w0 h0
    repeat (first | refine js ?_ | refine jb ?_)
    refine jr ?_
    refine jT (ru_alloc rfl rfl rfl) ?_
    refine RG.nil (by kernel_rfl) ?_
    repeat (first | refine js ?_ | refine jb ?_)
    refine jr ?_
    refine jm rfl ?_
    refine jS (ru_len rfl CSlice.ok) ?_
    refine jS (rt_bin_to rfl rfl (fun w => run_eqi w _ _ _ _ _ _) (vbool hb)) ?_
    refine RG.nil (by kernel_rfl) ?_
    repeat (first | refine js ?_ | refine jb ?_)
    refine WpD.condF rfl ?_
    repeat (first | refine js ?_ | refine jb ?_)
    refine WpD.skip ?_
    repeat (first | refine js ?_ | refine jb ?_)
    refine jr ?_
    refine jm rfl ?_
    refine jm rfl ?_
    refine jS (ru_build (ps := [(_, _), (_, _)]) ⟨rfl, Part.c rfl, rfl, Part.c rfl, trivial⟩ rfl) ?_
    refine jO (ru_storeR rfl rfl rfl rfl rfl rfl) ?_
    refine RG.nil (by kernel_rfl) ?_
    repeat (first | refine js ?_ | refine jb ?_)
    refine WpD.ret ?_
    exact ret1 rfl (.cell rfl rfl CRow.ok rfl) (PLe.refl _)
theorem ismall (n : Int) (h1 : -9223372036854775808 ≤ n) (h2 : n ≤ 9223372036854775807) : Fn Tryz.prog En 61 [ex (.int .i64 n)] (zC n) := by
  by_cases hn : n < 0
  · have b1 : decide (n < 0) = true := decide_eq_true hn
    have e1 : IntKind.u64.wrap n = n + 18446744073709551616 := by rw [IntKind.wrap_u64]; omega
    have e2 : IntKind.u64.wrap (-(n + 18446744073709551616)) = (n.natAbs : Int) := by rw [IntKind.wrap_u64]; omega
    have C1 := nfromWord En n.natAbs (by omega)
    have C2 := ibuild En true n.natAbs
    rw [show sgnZ true n.natAbs = n by unfold sgnZ; simp; omega] at C2
    refine fn_of_body Tryz.func61 rfl Tryz.ntmps61 rfl ?_
    intro w0 h0
    repeat (first | refine js ?_ | refine jb ?_)
    refine jr ?_
    refine jT (ru_alloc rfl rfl rfl) ?_
    refine RG.nil (by kernel_rfl) ?_
    repeat (first | refine js ?_ | refine jb ?_)
    refine jr ?_
    refine jm rfl ?_
    refine jS (rt_bin_to rfl rfl (fun w => run_lti w _ _ _ _ _ _) (vbool b1)) ?_
    refine RG.nil (by kernel_rfl) ?_
    repeat (first | refine js ?_ | refine jb ?_)
    refine WpD.condT rfl ?_
    repeat (first | refine js ?_ | refine jb ?_)
    refine jr ?_
    refine jm rfl ?_
    refine jS (rt_conv_to rfl (fun w => run_convi w CInt.ok CInt.ok _ _) (vint e1)) ?_
    refine jS (rt_un_to rfl (fun w => run_negi w _ _) (vint e2)) ?_
    refine jS (ru_call C1 ⟨rfl, trivial⟩) ?_
    refine jS (ru_call C2 ⟨rfl, rfl, trivial⟩) ?_
    refine jO (ru_storeR rfl rfl rfl rfl rfl rfl) ?_
    refine RG.nil (by kernel_rfl) ?_
    repeat (first | refine js ?_ | refine jb ?_)
    refine WpD.ret ?_
    exact ret1 rfl (.cell rfl rfl CRow.ok rfl) (PLe.refl _)
  · have b1 : decide (n < 0) = false := decide_eq_false hn
    have e1 : IntKind.u64.wrap n = (n.natAbs : Int) := by rw [IntKind.wrap_u64]; omega
    have C1 := nfromWord En n.natAbs (by omega)
    have C2 := ibuild En false n.natAbs
    rw [show sgnZ false n.natAbs = n by unfold sgnZ; simp; omega] at C2
    refine fn_of_body Tryz.func61 rfl Tryz.ntmps61 rfl ?_
    intro w0 h0
    repeat (first | refine js ?_ | refine jb ?_)
    refine jr ?_
    refine jT (ru_alloc rfl rfl rfl) ?_
    refine RG.nil (by kernel_rfl) ?_
    repeat (first | refine js ?_ | refine jb ?_)
    refine jr ?_
    refine jm rfl ?_
    refine jS (rt_bin_to rfl rfl (fun w => run_lti w _ _ _ _ _ _) (vbool b1)) ?_
    refine RG.nil (by kernel_rfl) ?_
    repeat (first | refine js ?_ | refine jb ?_)
    refine WpD.condF rfl ?_
    repeat (first | refine js ?_ | refine jb ?_)
    refine WpD.skip ?_
    repeat (first | refine js ?_ | refine jb ?_)
    refine jr ?_
    refine jm rfl ?_
    refine jS (rt_conv_to rfl (fun w => run_convi w CInt.ok CInt.ok _ _) (vint e1)) ?_
    refine jS (ru_call C1 ⟨rfl, trivial⟩) ?_
    refine jS (ru_call C2 ⟨rfl, rfl, trivial⟩) ?_
    refine jO (ru_storeR rfl rfl rfl rfl rfl rfl) ?_
    refine RG.nil (by kernel_rfl) ?_
    repeat (first | refine js ?_ | refine jb ?_)
    refine WpD.ret ?_
    exact ret1 rfl (.cell rfl rfl CRow.ok rfl) (PLe.refl _)
theorem isign (s : Bool) (l : List Nat) (hl : Lm l) (hlen : l.length ≤ 1099511627776) : Fn Tryz.prog En 88 [zR s l] (ex (.int .i64 (sg3 (zv s l)))) := by
  have C1 := ntrim En l hl hlen
  unfold zv
  generalize val l = n at *
  have hb := digs_len0 n
  by_cases hn : n = 0
  · subst hn
    rw [decide_eq_true rfl] at hb
    rw [show sg3 (sgnZ s 0) = 0 by cases s <;> rfl]
    refine fn_of_body Tryz.func88 rfl Tryz.ntmps88 rfl ?_
    intro w0 h0
    repeat (first | refine js ?_ | refine jb ?_)
    refine jr ?_
    refine jT (ru_boxR rfl rfl rfl) ?_
    refine ja rfl ?_
    refine RG.nil (by kernel_rfl) ?_
    repeat (first | refine js ?_ | refine jb ?_)
    refine jr ?_
    refine jS (ru_fieldAddr rfl rfl) ?_
    refine jS (ru_load1 rfl rfl rfl) ?_
    refine jS (ru_call C1 ⟨rfl, trivial⟩) ?_
    refine jS (ru_len rfl CSlice.ok) ?_
    refine jS (rt_bin_to rfl rfl (fun w => run_eqi w _ _ _ _ _ _) (vbool hb)) ?_
    refine ja rfl ?_
    refine RG.nil (by kernel_rfl) ?_
    repeat (first | refine js ?_ | refine jb ?_)
    refine WpD.condT rfl ?_
    repeat (first | refine js ?_ | refine jb ?_)
    refine jr ?_
    refine ja rfl ?_
    refine RG.nil (by kernel_rfl) ?_
    repeat (first | refine js ?_ | refine jb ?_)
    refine WpD.ret ?_
    exact ret1 rfl (.tmp rfl) (PLe.refl _)
  · rw [decide_eq_false hn] at hb
    cases s with
    | true =>
      rw [show sg3 (sgnZ true n) = -1 by unfold sg3 sgnZ; simp; omega]
      refine fn_of_body Tryz.func88 rfl Tryz.ntmps88 rfl ?_
      intro w0 h0
      repeat (first | refine js ?_ | refine jb ?_)
      refine jr ?_
      refine jT (ru_boxR rfl rfl rfl) ?_
      refine ja rfl ?_
      refine RG.nil (by kernel_rfl) ?_
      repeat (first | refine js ?_ | refine jb ?_)
      refine jr ?_
      refine jS (ru_fieldAddr rfl rfl) ?_
      refine jS (ru_load1 rfl rfl rfl) ?_
      refine jS (ru_call C1 ⟨rfl, trivial⟩) ?_
      refine jS (ru_len rfl CSlice.ok) ?_
      refine jS (rt_bin_to rfl rfl (fun w => run_eqi w _ _ _ _ _ _) (vbool hb)) ?_
      refine ja rfl ?_
      refine RG.nil (by kernel_rfl) ?_
      repeat (first | refine js ?_ | refine jb ?_)
      refine WpD.condF rfl ?_
      repeat (first | refine js ?_ | refine jb ?_)
      refine jr ?_
      refine jS (ru_fieldAddr rfl rfl) ?_
      refine jS (ru_load1 rfl rfl rfl) ?_
      refine ja rfl ?_
      refine RG.nil (by kernel_rfl) ?_
      repeat (first | refine js ?_ | refine jb ?_)
      refine WpD.condT rfl ?_
      repeat (first | refine js ?_ | refine jb ?_)
      refine jr ?_
      refine ja rfl ?_
      refine RG.nil (by kernel_rfl) ?_
      repeat (first | refine js ?_ | refine jb ?_)
      refine WpD.ret ?_
      exact ret1 rfl (.tmp rfl) (PLe.refl _)
    | false =>
      rw [show sg3 (sgnZ false n) = 1 by unfold sg3 sgnZ; simp; omega]
      refine fn_of_body Tryz.func88 rfl Tryz.ntmps88 rfl ?_
      intro w0 h0
      repeat (first | refine js ?_ | refine jb ?_)
      refine jr ?_
      refine jT (ru_boxR rfl rfl rfl) ?_
      refine ja rfl ?_
      refine RG.nil (by kernel_rfl) ?_
      repeat (first | refine js ?_ | refine jb ?_)
      refine jr ?_
      refine jS (ru_fieldAddr rfl rfl) ?_
      refine jS (ru_load1 rfl rfl rfl) ?_
      refine jS (ru_call C1 ⟨rfl, trivial⟩) ?_
      refine jS (ru_len rfl CSlice.ok) ?_
      refine jS (rt_bin_to rfl rfl (fun w => run_eqi w _ _ _ _ _ _) (vbool hb)) ?_
      refine ja rfl ?_
      refine RG.nil (by kernel_rfl) ?_
      repeat (first | refine js ?_ | refine jb ?_)
      refine WpD.condF rfl ?_
      repeat (first | refine js ?_ | refine jb ?_)
      refine jr ?_
      refine jS (ru_fieldAddr rfl rfl) ?_
      refine jS (ru_load1 rfl rfl rfl) ?_
      refine ja rfl ?_
      refine RG.nil (by kernel_rfl) ?_
      repeat (first | refine js ?_ | refine jb ?_)
      refine WpD.condF rfl ?_
      repeat (first | refine js ?_ | refine jb ?_)
      refine WpD.skip ?_
      repeat (first | refine js ?_ | refine jb ?_)
      refine jr ?_
      refine ja rfl ?_
      refine RG.nil (by kernel_rfl) ?_
      repeat (first | refine js ?_ | refine jb ?_)
      refine WpD.ret ?_
      exact ret1 rfl (.tmp rfl) (PLe.refl _)
theorem imul (s : Bool) (l : List Nat) (s' : Bool) (l' : List Nat) (hl : Lm l) (hl' : Lm l') (hlen : l.length ≤ 274877906944) (hlen' : l'.length ≤ 274877906944) :
    Fn Tryz.prog En 89 [zR s l, zR s' l'] (zC (zv s l * zv s' l')) := by
  have C1 := ntrim En l hl (by omega)
  have C2 := ntrim En l' hl' (by omega)
  have D1 := digs_lenle hlen hl
  have D2 := digs_lenle hlen' hl'
  unfold zv
  rw [sgnZ_mul]
  generalize val l = x at *
  generalize val l' = y at *
  have C3 := nmul En (digs x) (digs y) D1 D2 (lm_digs _) (lm_digs _)
  rw [val_digs, val_digs] at C3
  have C4 := ibuild En (s != s') (x * y)
  refine fn_of_body Tryz.func89 rfl Tryz.ntmps89 rfl ?_
  intro w0 h0
  repeat (first | refine js ?_ | refine jb ?_)
  refine jr ?_
  refine jT (ru_boxR rfl rfl rfl) ?_
  refine jT (ru_boxR rfl rfl rfl) ?_
  refine jT (ru_alloc rfl rfl rfl) ?_
  refine RG.nil (by kernel_rfl) ?_
  repeat (first | refine js ?_ | refine jb ?_)
  refine jr ?_
  refine jS (ru_fieldAddr rfl rfl) ?_
  refine jS (ru_load1 rfl rfl rfl) ?_
  refine jS (ru_fieldAddr rfl rfl) ?_
  refine jS (ru_load1 rfl rfl rfl) ?_
  refine jS (rt_bin rfl rfl (fun w => run_neb w CBool.ok _ _ _ _)) ?_
  refine jS (ru_fieldAddr rfl rfl) ?_
  refine jS (ru_load1 rfl rfl rfl) ?_
  refine jS (ru_call C1 ⟨rfl, trivial⟩) ?_
  refine jS (ru_fieldAddr rfl rfl) ?_
  refine jS (ru_load1 rfl rfl rfl) ?_
  refine jS (ru_call C2 ⟨rfl, trivial⟩) ?_
  refine jS (ru_call C3 ⟨rfl, rfl, trivial⟩) ?_
  refine jS (ru_call C4 ⟨rfl, rfl, trivial⟩) ?_
  refine jO (ru_storeR rfl rfl rfl rfl rfl rfl) ?_
  refine RG.nil (by kernel_rfl) ?_
  repeat (first | refine js ?_ | refine jb ?_)
  refine WpD.ret ?_
  exact ret1 rfl (.cell rfl rfl CRow.ok rfl) (PLe.refl _)
set_option maxHeartbeats 1000000 in
theorem idivmod (s : Bool) (l : List Nat) (s' : Bool) (l' : List Nat) (hl : Lm l) (hl' : Lm l') (hlen : l.length ≤ 274877906944) (hlen' : l'.length ≤ 274877906944) (hy : zv s' l' ≠ 0) :
    Fn Tryz.prog En 92 [zR s l, zR s' l'] (tupP [zC (zv s l / zv s' l'), zC (zv s l % zv s' l'), ex (.bool true)]) := by
  have C1 := ntrim En l' hl' (by omega)
  have C2 := ntrim En l hl (by omega)
  have D1 := digs_lenle hlen hl
  have D2 := digs_lenle hlen' hl'
  unfold zv at hy ⊢
  generalize val l = x at *
  generalize val l' = y at *
  have hy0 : y ≠ 0 := by rintro rfl; apply hy; cases s' <;> rfl
  have C3 := ndiv En x y (by omega) hy0
  unfold DivP at C3
  have b1 := digs_len0 y
  rw [decide_eq_false hy0] at b1
  have Q1 : (digs (x / y)).length ≤ 274877906944 := Nat.le_trans (digs_mono (Nat.div_le_self _ _)) D1
  have hlt := Nat.mod_lt x (Nat.pos_of_ne_zero hy0)
  have C5 := ibuild En false (x % y)
  have e5 : sgnZ false (x % y) = ((x % y : Nat) : Int) := rfl
  rw [e5] at C5
  cases s with
  | false =>
    have C4 := ibuild En s' (x / y)
    obtain ⟨e1, e2⟩ := sdm_up (s := false) (s' := s') hy0 (.inl rfl)
    rw [e1, e2, Bool.false_bne]
    refine fn_of_body Tryz.func92 rfl Tryz.ntmps92 rfl ?_
    intro w0 h0
    repeat (first | refine js ?_ | refine jb ?_)
    refine jr ?_
    refine jT (ru_boxR rfl rfl rfl) ?_
    refine jT (ru_boxR rfl rfl rfl) ?_
    refine jT (ru_alloc rfl rfl rfl) ?_
    refine jT (ru_alloc rfl rfl rfl) ?_
    refine ja rfl ?_
    refine RG.nil (by kernel_rfl) ?_
    repeat (first | refine js ?_ | refine jb ?_)
    refine jr ?_
    refine jS (ru_fieldAddr rfl rfl) ?_
    refine jS (ru_load1 rfl rfl rfl) ?_
    refine jS (ru_call C1 ⟨rfl, trivial⟩) ?_
    refine ja rfl ?_
    refine RG.nil (by kernel_rfl) ?_
    repeat (first | refine js ?_ | refine jb ?_)
    refine jr ?_
    refine jm rfl ?_
    refine jS (ru_len rfl CSlice.ok) ?_
    refine jS (rt_bin_to rfl rfl (fun w => run_eqi w _ _ _ _ _ _) (vbool b1)) ?_
    refine RG.nil (by kernel_rfl) ?_
    repeat (first | refine js ?_ | refine jb ?_)
    refine WpD.condF rfl ?_
    repeat (first | refine js ?_ | refine jb ?_)
    refine WpD.skip ?_
    repeat (first | refine js ?_ | refine jb ?_)
    refine jr ?_
    refine jS (ru_fieldAddr rfl rfl) ?_
    refine jS (ru_load1 rfl rfl rfl) ?_
    refine jS (ru_call C2 ⟨rfl, trivial⟩) ?_
    refine jm rfl ?_
    refine jS (ru_call C3 ⟨rfl, rfl, trivial⟩) ?_
    refine jm rfl ?_
    refine jS (rt_extract rfl rfl) ?_
    refine jS (rt_extract rfl rfl) ?_
    refine ja rfl ?_
    refine ja rfl ?_
    refine RG.nil (by kernel_rfl) ?_
    repeat (first | refine js ?_ | refine jb ?_)
    refine jr ?_
    refine jS (ru_fieldAddr rfl rfl) ?_
    refine jS (ru_load1 rfl rfl rfl) ?_
    refine ja rfl ?_
    refine RG.nil (by kernel_rfl) ?_
    repeat (first | refine js ?_ | refine jb ?_)
    refine jr ?_
    refine jS (ru_fieldAddr rfl rfl) ?_
    refine jS (ru_load1 rfl rfl rfl) ?_
    refine jm rfl ?_
    first | refine RG.S0 (LT.run rfl rfl rfl (rt_move rfl)) ?_ | refine RG.S0 (LT.skip rfl rfl rfl) ?_
    first | refine RG.S0 (LT.run rfl rfl rfl (ru_len rfl CSlice.ok)) ?_ | refine RG.S0 (LT.skip rfl rfl rfl) ?_
    first | refine RG.S0 (LT.run rfl rfl rfl (rt_bin rfl rfl (fun w => run_gti w _ _ _ _ _ _))) ?_ | refine RG.S0 (LT.skip rfl rfl rfl) ?_
    first | refine jS (rt_pick_true rfl rfl) ?_ | refine jS (rt_pick_false rfl rfl) ?_
    refine ja rfl ?_
    refine RG.nil (by kernel_rfl) ?_
    repeat (first | refine js ?_ | refine jb ?_)
    refine WpD.condF rfl ?_
    repeat (first | refine js ?_ | refine jb ?_)
    refine WpD.skip ?_
    repeat (first | refine js ?_ | refine jb ?_)
    refine jr ?_
    refine jS (ru_fieldAddr rfl rfl) ?_
    refine jS (ru_load1 rfl rfl rfl) ?_
    refine ja rfl ?_
    refine RG.nil (by kernel_rfl) ?_
    repeat (first | refine js ?_ | refine jb ?_)
    refine WpD.condF rfl ?_
    repeat (first | refine js ?_ | refine jb ?_)
    refine WpD.skip ?_
    repeat (first | refine js ?_ | refine jb ?_)
    refine WpD.exit ?_
    repeat (first | refine js ?_ | refine jb ?_)
    refine jr ?_
    refine jm rfl ?_
    refine jm rfl ?_
    refine jS (ru_call C4 ⟨rfl, rfl, trivial⟩) ?_
    refine jm rfl ?_
    refine jS (ru_call C5 ⟨rfl, rfl, trivial⟩) ?_
    refine jO (ru_storeR rfl rfl rfl rfl rfl rfl) ?_
    refine jO (ru_storeR rfl rfl rfl rfl rfl rfl) ?_
    refine ja rfl ?_
    refine RG.nil (by kernel_rfl) ?_
    repeat (first | refine js ?_ | refine jb ?_)
    refine WpD.ret ?_
    exact ret3 rfl (.cell rfl rfl CRow.ok rfl) (.cell rfl rfl CRow.ok rfl) (.tmp rfl) (PLe.refl _)
  | true =>
    by_cases hr : x % y = 0
    · have b2 : decide (((digs (x % y)).length : Int) > 0) = false := by rw [hr]; rfl
      have C4 := ibuild En (!s') (x / y)
      obtain ⟨e1, e2⟩ := sdm_up (s := true) (s' := s') hy0 (.inr hr)
      rw [e1, e2, Bool.true_bne]
      refine fn_of_body Tryz.func92 rfl Tryz.ntmps92 rfl ?_
      intro w0 h0
      repeat (first | refine js ?_ | refine jb ?_)
      refine jr ?_
      refine jT (ru_boxR rfl rfl rfl) ?_
      refine jT (ru_boxR rfl rfl rfl) ?_
      refine jT (ru_alloc rfl rfl rfl) ?_
      refine jT (ru_alloc rfl rfl rfl) ?_
      refine ja rfl ?_
      refine RG.nil (by kernel_rfl) ?_
      repeat (first | refine js ?_ | refine jb ?_)
      refine jr ?_
      refine jS (ru_fieldAddr rfl rfl) ?_
      refine jS (ru_load1 rfl rfl rfl) ?_
      refine jS (ru_call C1 ⟨rfl, trivial⟩) ?_
      refine ja rfl ?_
      refine RG.nil (by kernel_rfl) ?_
      repeat (first | refine js ?_ | refine jb ?_)
      refine jr ?_
      refine jm rfl ?_
      refine jS (ru_len rfl CSlice.ok) ?_
      refine jS (rt_bin_to rfl rfl (fun w => run_eqi w _ _ _ _ _ _) (vbool b1)) ?_
      refine RG.nil (by kernel_rfl) ?_
      repeat (first | refine js ?_ | refine jb ?_)
      refine WpD.condF rfl ?_
      repeat (first | refine js ?_ | refine jb ?_)
      refine WpD.skip ?_
      repeat (first | refine js ?_ | refine jb ?_)
      refine jr ?_
      refine jS (ru_fieldAddr rfl rfl) ?_
      refine jS (ru_load1 rfl rfl rfl) ?_
      refine jS (ru_call C2 ⟨rfl, trivial⟩) ?_
      refine jm rfl ?_
      refine jS (ru_call C3 ⟨rfl, rfl, trivial⟩) ?_
      refine jm rfl ?_
      refine jS (rt_extract rfl rfl) ?_
      refine jS (rt_extract rfl rfl) ?_
      refine ja rfl ?_
      refine ja rfl ?_
      refine RG.nil (by kernel_rfl) ?_
      repeat (first | refine js ?_ | refine jb ?_)
      refine jr ?_
      refine jS (ru_fieldAddr rfl rfl) ?_
      refine jS (ru_load1 rfl rfl rfl) ?_
      refine ja rfl ?_
      refine RG.nil (by kernel_rfl) ?_
      repeat (first | refine js ?_ | refine jb ?_)
      refine jr ?_
      refine jS (ru_fieldAddr rfl rfl) ?_
      refine jS (ru_load1 rfl rfl rfl) ?_
      refine jm rfl ?_
      first | refine RG.S0 (LT.run rfl rfl rfl (rt_move rfl)) ?_ | refine RG.S0 (LT.skip rfl rfl rfl) ?_
      first | refine RG.S0 (LT.run rfl rfl rfl (ru_len rfl CSlice.ok)) ?_ | refine RG.S0 (LT.skip rfl rfl rfl) ?_
      first | refine RG.S0 (LT.run rfl rfl rfl (rt_bin_to rfl rfl (fun w => run_gti w _ _ _ _ _ _) (vbool b2))) ?_ | refine RG.S0 (LT.skip rfl rfl rfl) ?_
      first | refine jS (rt_pick_true rfl rfl) ?_ | refine jS (rt_pick_false rfl rfl) ?_
      refine ja rfl ?_
      refine RG.nil (by kernel_rfl) ?_
      repeat (first | refine js ?_ | refine jb ?_)
      refine WpD.condF rfl ?_
      repeat (first | refine js ?_ | refine jb ?_)
      refine WpD.skip ?_
      repeat (first | refine js ?_ | refine jb ?_)
      refine jr ?_
      refine jS (ru_fieldAddr rfl rfl) ?_
      refine jS (ru_load1 rfl rfl rfl) ?_
      refine ja rfl ?_
      refine RG.nil (by kernel_rfl) ?_
      repeat (first | refine js ?_ | refine jb ?_)
      refine WpD.condT rfl ?_
      repeat (first | refine js ?_ | refine jb ?_)
      refine WpD.exit ?_
      repeat (first | refine js ?_ | refine jb ?_)
      refine jr ?_
      refine jm rfl ?_
      refine jS (rt_un rfl (fun w => run_not w _)) ?_
      refine ja rfl ?_
      refine RG.nil (by kernel_rfl) ?_
      repeat (first | refine js ?_ | refine jb ?_)
      refine WpD.exit ?_
      repeat (first | refine js ?_ | refine jb ?_)
      refine jr ?_
      refine jm rfl ?_
      refine jm rfl ?_
      refine jS (ru_call C4 ⟨rfl, rfl, trivial⟩) ?_
      refine jm rfl ?_
      refine jS (ru_call C5 ⟨rfl, rfl, trivial⟩) ?_
      refine jO (ru_storeR rfl rfl rfl rfl rfl rfl) ?_
      refine jO (ru_storeR rfl rfl rfl rfl rfl rfl) ?_
      refine ja rfl ?_
      refine RG.nil (by kernel_rfl) ?_
      repeat (first | refine js ?_ | refine jb ?_)
      refine WpD.ret ?_
      exact ret3 rfl (.cell rfl rfl CRow.ok rfl) (.cell rfl rfl CRow.ok rfl) (.tmp rfl) (PLe.refl _)
    · have b2 : decide (((digs (x % y)).length : Int) > 0) = true := by rw [digs_step hr]; simp
      have hlm1 : Lm [1] := Lm.cons (by rw [B_def]; omega) Lm.nil
      have C6 := nadd En (digs (x / y)) [1] (by omega) (by simp) (lm_digs _) hlm1
      rw [val_digs, show val [1] = 1 by rfl] at C6
      have C7 := nsub En (digs y) (digs (x % y)) (by omega) (digs_mono (by omega)) (lm_digs _) (lm_digs _) (by rw [val_digs, val_digs]; omega)
      rw [val_digs, val_digs] at C7
      have C4 := ibuild En (!s') (x / y + 1)
      have C8 := ibuild En false (y - x % y)
      rw [show sgnZ false (y - x % y) = ((y - x % y : Nat) : Int) from rfl] at C8
      obtain ⟨e1, e2⟩ := sdm_down (s' := s') hy0 hr
      rw [e1, e2]
      refine fn_of_body Tryz.func92 rfl Tryz.ntmps92 rfl ?_
      intro w0 h0
      repeat (first | refine js ?_ | refine jb ?_)
      refine jr ?_
      refine jT (ru_boxR rfl rfl rfl) ?_
      refine jT (ru_boxR rfl rfl rfl) ?_
      refine jT (ru_alloc rfl rfl rfl) ?_
      refine jT (ru_alloc rfl rfl rfl) ?_
      refine ja rfl ?_
      refine RG.nil (by kernel_rfl) ?_
      repeat (first | refine js ?_ | refine jb ?_)
      refine jr ?_
      refine jS (ru_fieldAddr rfl rfl) ?_
      refine jS (ru_load1 rfl rfl rfl) ?_
      refine jS (ru_call C1 ⟨rfl, trivial⟩) ?_
      refine ja rfl ?_
      refine RG.nil (by kernel_rfl) ?_
      repeat (first | refine js ?_ | refine jb ?_)
      refine jr ?_
      refine jm rfl ?_
      refine jS (ru_len rfl CSlice.ok) ?_
      refine jS (rt_bin_to rfl rfl (fun w => run_eqi w _ _ _ _ _ _) (vbool b1)) ?_
      refine RG.nil (by kernel_rfl) ?_
      repeat (first | refine js ?_ | refine jb ?_)
      refine WpD.condF rfl ?_
      repeat (first | refine js ?_ | refine jb ?_)
      refine WpD.skip ?_
      repeat (first | refine js ?_ | refine jb ?_)
      refine jr ?_
      refine jS (ru_fieldAddr rfl rfl) ?_
      refine jS (ru_load1 rfl rfl rfl) ?_
      refine jS (ru_call C2 ⟨rfl, trivial⟩) ?_
      refine jm rfl ?_
      refine jS (ru_call C3 ⟨rfl, rfl, trivial⟩) ?_
      refine jm rfl ?_
      refine jS (rt_extract rfl rfl) ?_
      refine jS (rt_extract rfl rfl) ?_
      refine ja rfl ?_
      refine ja rfl ?_
      refine RG.nil (by kernel_rfl) ?_
      repeat (first | refine js ?_ | refine jb ?_)
      refine jr ?_
      refine jS (ru_fieldAddr rfl rfl) ?_
      refine jS (ru_load1 rfl rfl rfl) ?_
      refine ja rfl ?_
      refine RG.nil (by kernel_rfl) ?_
      repeat (first | refine js ?_ | refine jb ?_)
      refine jr ?_
      refine jS (ru_fieldAddr rfl rfl) ?_
      refine jS (ru_load1 rfl rfl rfl) ?_
      refine jm rfl ?_
      first | refine RG.S0 (LT.run rfl rfl rfl (rt_move rfl)) ?_ | refine RG.S0 (LT.skip rfl rfl rfl) ?_
      first | refine RG.S0 (LT.run rfl rfl rfl (ru_len rfl CSlice.ok)) ?_ | refine RG.S0 (LT.skip rfl rfl rfl) ?_
      first | refine RG.S0 (LT.run rfl rfl rfl (rt_bin_to rfl rfl (fun w => run_gti w _ _ _ _ _ _) (vbool b2))) ?_ | refine RG.S0 (LT.skip rfl rfl rfl) ?_
      first | refine jS (rt_pick_true rfl rfl) ?_ | refine jS (rt_pick_false rfl rfl) ?_
      refine ja rfl ?_
      refine RG.nil (by kernel_rfl) ?_
      repeat (first | refine js ?_ | refine jb ?_)
      refine WpD.condT rfl ?_
      repeat (first | refine js ?_ | refine jb ?_)
      refine WpD.exit ?_
      repeat (first | refine js ?_ | refine jb ?_)
      refine jr ?_
      refine jm rfl ?_
      refine jS (rc_buildS (l := [1]) ⟨rfl, rfl, trivial⟩ rfl rfl rfl hlm1) ?_
      refine jS (ru_call C6 ⟨rfl, rfl, trivial⟩) ?_
      refine ja rfl ?_
      refine RG.nil (by kernel_rfl) ?_
      repeat (first | refine js ?_ | refine jb ?_)
      refine jr ?_
      refine jm rfl ?_
      refine jm rfl ?_
      refine jS (ru_call C7 ⟨rfl, rfl, trivial⟩) ?_
      refine ja rfl ?_
      refine RG.nil (by kernel_rfl) ?_
      repeat (first | refine js ?_ | refine jb ?_)
      refine jr ?_
      refine jm rfl ?_
      refine jS (rt_un rfl (fun w => run_not w _)) ?_
      refine ja rfl ?_
      refine RG.nil (by kernel_rfl) ?_
      repeat (first | refine js ?_ | refine jb ?_)
      refine WpD.exit ?_
      repeat (first | refine js ?_ | refine jb ?_)
      refine jr ?_
      refine jm rfl ?_
      refine jm rfl ?_
      refine jS (ru_call C4 ⟨rfl, rfl, trivial⟩) ?_
      refine jm rfl ?_
      refine jS (ru_call C8 ⟨rfl, rfl, trivial⟩) ?_
      refine jO (ru_storeR rfl rfl rfl rfl rfl rfl) ?_
      refine jO (ru_storeR rfl rfl rfl rfl rfl rfl) ?_
      refine ja rfl ?_
      refine RG.nil (by kernel_rfl) ?_
      repeat (first | refine js ?_ | refine jb ?_)
      refine WpD.ret ?_
      exact ret3 rfl (.cell rfl rfl CRow.ok rfl) (.cell rfl rfl CRow.ok rfl) (.tmp rfl) (PLe.refl _)
end
end Go.Proofs.YtpiflllcjgpkhaaGreatDoor

/- The sanity check of chapter 31. -/
import Derived.Test.YtgbiccenhionaaaGreatDoorBg
import Derived.Test.YtgbiccenhionaaaGreatDoorFm
set_option maxRecDepth 3000
namespace Go.Proofs.YtgbiccenhionaaaGreatDoor
open Go.RowKit Limb Num
instance cbody30 : CBody Tryz.prog 30 := ⟨⟨_, Tryz.func30, rfl, by rfl⟩⟩
instance cbody12 : CBody Tryz.prog 12 := ⟨⟨_, Tryz.func12, rfl, by rfl⟩⟩
section
variable (En : Ev)
theorem rformat_whole (r : Rat) (k : Nat) (hr : Sz 1073741824 r) (hd : r.den = 1) (h1 : r.num.natAbs < 10 ^ k) (h2 : k ≤ 9) (h3 : 10 ^ (k - 1) ≤ r.num.natAbs) (h4 : 0 < k) : Fn Tryz.prog En 55 [qC r] (ex (.string (txt (fmtL r.num k)))) := by
  have C1 := rcanonical En (RQ.of r) (RQ.of_ok hr)
  have C2 := riswhole En (RQ.of r) (RQ.of_ok hr)
  rw [RQ.of_v] at C1 C2
  rw [show (cmpZ r.den 1 == 0) = true by rw [hd]; decide] at C2
  have C3 := iformat En r.num k h1 h2 h3 h4
  refine fn_of_body Tryz.func55 rfl Tryz.ntmps55 rfl ?_
  intro w0 h0
  repeat (first | refine js ?_ | refine jb ?_)
  refine jr ?_
  refine jT (ru_boxR rfl rfl rfl) ?_
  refine ja rfl ?_
  refine RG.nil (by kernel_rfl) ?_
  repeat (first | refine js ?_ | refine jb ?_)
  refine jr ?_
  refine jS (ru_loadR rfl rfl rfl rfl) ?_
  refine jS (ru_call C1 ⟨rfl, trivial⟩) ?_
  refine jT (ru_alloc rfl rfl rfl) ?_
  refine jO (ru_storeR rfl rfl rfl rfl rfl rfl) ?_
  refine RG.nil (by kernel_rfl) ?_
  repeat (first | refine js ?_ | refine jb ?_)
  refine jr ?_
  refine jS (ru_loadR rfl rfl rfl rfl) ?_
  refine jS (ru_call C2 ⟨rfl, trivial⟩) ?_
  refine RG.nil (by kernel_rfl) ?_
  repeat (first | refine js ?_ | refine jb ?_)
  refine WpD.condT rfl ?_
  repeat (first | refine js ?_ | refine jb ?_)
  refine jr ?_
  refine jS (ru_fieldAddr rfl rfl) ?_
  refine jS (ru_loadR rfl rfl rfl rfl) ?_
  refine jS (ru_call C3 ⟨rfl, trivial⟩) ?_
  refine ja rfl ?_
  refine RG.nil (by kernel_rfl) ?_
  repeat (first | refine js ?_ | refine jb ?_)
  refine WpD.ret ?_
  exact ret1 rfl (.tmp rfl) (PLe.refl _)
theorem txt_size (l : List Nat) : (txt l).size = l.length := by
  have : ∀ (l : List Nat) (b : ByteArray), ((l.map fun (x : Nat) => (x : Int)).foldl (fun r n => r.push (UInt8.ofNat n.toNat)) b).size = b.size + l.length := by
    intro l
    induction l with
    | nil => intro b; rfl
    | cons x l ih => intro b; simp only [List.map_cons, List.foldl_cons, List.length_cons]; rw [ih, ByteArray.size_push]; omega
  have h := this l ByteArray.empty
  rw [show ByteArray.empty.size = 0 from rfl, Nat.zero_add] at h
  exact h
theorem fmtL_len (z : Int) (k : Nat) : (fmtL z k).length ≤ k + 1 := by
  unfold fmtL
  rw [List.length_reverse, List.length_append, dgts_len]
  split <;> simp
theorem rformat_frac (r : Rat) (k m : Nat) (hr : Sz 1073741824 r) (hd : r.den ≠ 1) (h1 : r.num.natAbs < 10 ^ k) (h2 : k ≤ 9) (h3 : 10 ^ (k - 1) ≤ r.num.natAbs) (h4 : 0 < k) (m1 : r.den < 10 ^ m) (m2 : m ≤ 9) (m3 : 10 ^ (m - 1) ≤ r.den) (m4 : 0 < m) :
    Fn Tryz.prog En 55 [qC r] (ex (.string (txt (fmtL r.num k) ++ ⟨#[47]⟩ ++ txt (fmtL r.den m)))) := by
  have C1 := rcanonical En (RQ.of r) (RQ.of_ok hr)
  have C2 := riswhole En (RQ.of r) (RQ.of_ok hr)
  rw [RQ.of_v] at C1 C2
  rw [show (cmpZ r.den 1 == 0) = false by have := r.den_pos; unfold cmpZ; rw [if_neg (by omega), if_pos (by omega)]; rfl] at C2
  have C3 := iformat En r.num k h1 h2 h3 h4
  have C4 := iformat En (r.den : Int) m m1 m2 m3 m4
  have l1 := fmtL_len r.num k
  have l2 := fmtL_len (r.den : Int) m
  have s1 : (txt (fmtL r.num k)).size + (⟨#[47]⟩ : ByteArray).size ≤ 1000000 := by rw [txt_size]; show _ + 1 ≤ _; omega
  have s2 : (txt (fmtL r.num k) ++ (⟨#[47]⟩ : ByteArray)).size + (txt (fmtL r.den m)).size ≤ 1000000 := by rw [ByteArray.size_append, txt_size, txt_size]; show _ + 1 + _ ≤ _; omega
  refine fn_of_body Tryz.func55 rfl Tryz.ntmps55 rfl ?_
  intro w0 h0
  repeat (first | refine js ?_ | refine jb ?_)
  refine jr ?_
  refine jT (ru_boxR rfl rfl rfl) ?_
  refine ja rfl ?_
  refine RG.nil (by kernel_rfl) ?_
  repeat (first | refine js ?_ | refine jb ?_)
  refine jr ?_
  refine jS (ru_loadR rfl rfl rfl rfl) ?_
  refine jS (ru_call C1 ⟨rfl, trivial⟩) ?_
  refine jT (ru_alloc rfl rfl rfl) ?_
  refine jO (ru_storeR rfl rfl rfl rfl rfl rfl) ?_
  refine RG.nil (by kernel_rfl) ?_
  repeat (first | refine js ?_ | refine jb ?_)
  refine jr ?_
  refine jS (ru_loadR rfl rfl rfl rfl) ?_
  refine jS (ru_call C2 ⟨rfl, trivial⟩) ?_
  refine RG.nil (by kernel_rfl) ?_
  repeat (first | refine js ?_ | refine jb ?_)
  refine WpD.condF rfl ?_
  repeat (first | refine js ?_ | refine jb ?_)
  refine WpD.skip ?_
  repeat (first | refine js ?_ | refine jb ?_)
  refine jr ?_
  refine jS (ru_fieldAddr rfl rfl) ?_
  refine jS (ru_loadR rfl rfl rfl rfl) ?_
  refine jS (ru_call C3 ⟨rfl, trivial⟩) ?_
  refine jS (rt_bin rfl rfl (fun w => run_adds w CStr.ok _ _ _ _ s1)) ?_
  refine jS (ru_fieldAddr rfl rfl) ?_
  refine jS (ru_loadR rfl rfl rfl rfl) ?_
  refine jS (ru_call C4 ⟨rfl, trivial⟩) ?_
  refine jS (rt_bin rfl rfl (fun w => run_adds w CStr.ok _ _ _ _ s2)) ?_
  refine ja rfl ?_
  refine RG.nil (by kernel_rfl) ?_
  repeat (first | refine js ?_ | refine jb ?_)
  refine WpD.ret ?_
  exact ret1 rfl (.tmp rfl) (PLe.refl _)
theorem lshown (r : Rat) (t : ByteArray) (h : Fn Tryz.prog En 55 [qC r] (ex (.string t))) : Fn Tryz.prog En 30 [qC r, ex (.int .i64 0)] (ex (.string t)) := by
  refine fn_of_body Tryz.func30 rfl Tryz.ntmps30 rfl ?_
  intro w0 h0
  repeat (first | refine js ?_ | refine jb ?_)
  refine jr ?_
  refine jT (ru_boxR rfl rfl rfl) ?_
  refine ja rfl ?_
  refine RG.nil (by kernel_rfl) ?_
  repeat (first | refine js ?_ | refine jb ?_)
  refine jr ?_
  refine jm rfl ?_
  refine jS (rt_bin_to rfl rfl (fun w => run_nei w _ _ _ _ _ _) (vbool (bneF (by first | assumption | omega)))) ?_
  refine RG.nil (by kernel_rfl) ?_
  repeat (first | refine js ?_ | refine jb ?_)
  refine WpD.condF rfl ?_
  repeat (first | refine js ?_ | refine jb ?_)
  refine WpD.skip ?_
  repeat (first | refine js ?_ | refine jb ?_)
  refine jr ?_
  refine jS (ru_loadR rfl rfl rfl rfl) ?_
  refine jS (ru_call h ⟨rfl, trivial⟩) ?_
  refine ja rfl ?_
  refine RG.nil (by kernel_rfl) ?_
  repeat (first | refine js ?_ | refine jb ?_)
  refine WpD.ret ?_
  exact ret1 rfl (.tmp rfl) (PLe.refl _)
theorem bnumber (k : Nat) (hk : k ≤ 20) : Fn Tryz.prog En 31 [ex (.int .i64 (k : Int))] (tupP [qC (bern k), ex (.int .i64 0)]) := by
  have N1 := bnumbers En k hk
  have hlt : k < k + 1 := by omega
  have hq : ((rows bcells (k + 1)).drop (k * 4)).take 4 = qCells (bern k) := rows_get bcells_len hlt
  refine fn_of_body Tryz.func31 rfl Tryz.ntmps31 rfl ?_
  intro w0 h0
  repeat (first | refine js ?_ | refine jb ?_)
  refine jr ?_
  refine jT (ru_alloc rfl rfl rfl) ?_
  refine ja rfl ?_
  refine RG.nil (by kernel_rfl) ?_
  repeat (first | refine js ?_ | refine jb ?_)
  refine jr ?_
  refine jm rfl ?_
  refine jS (rt_bin_to rfl rfl (fun w => run_lti w _ _ _ _ _ _) (vbool (decide_eq_false (by first | assumption | omega)))) ?_
  refine jm rfl ?_
  refine RG.S0 (LT.run rfl rfl rfl (rt_move rfl)) ?_
  refine RG.S0 (LT.run rfl rfl rfl (rt_bin_to rfl rfl (fun w => run_gti w _ _ _ _ _ _) (vbool (decide_eq_false (by first | assumption | omega))))) ?_
  refine jS (rt_pick_false rfl rfl) ?_
  refine RG.nil (by kernel_rfl) ?_
  repeat (first | refine js ?_ | refine jb ?_)
  refine WpD.condF rfl ?_
  repeat (first | refine js ?_ | refine jb ?_)
  refine WpD.skip ?_
  repeat (first | refine js ?_ | refine jb ?_)
  refine jr ?_
  refine jm rfl ?_
  refine jS (ru_call N1 ⟨rfl, trivial⟩) ?_
  refine jm rfl ?_
  refine jS (rc_indexS rfl rfl hlt hq) ?_
  refine jS (rc_loadR rfl rfl rfl) ?_
  refine jO (ru_storeR rfl rfl rfl rfl rfl rfl) ?_
  refine ja rfl ?_
  refine RG.nil (by kernel_rfl) ?_
  repeat (first | refine js ?_ | refine jb ?_)
  refine WpD.ret ?_
  exact ret2 rfl (.cell rfl rfl CRow.ok rfl) (.tmp rfl) (PLe.refl _)
end
theorem gen_23 : gsum 1 (-23) 23 2 = ((-3 : Int) : Rat) := by decide +kernel
theorem gen_5 : gsum 2 5 5 3 = mkRat 4 5 := by decide +kernel
theorem fund_23 : fund (-23) = true := by decide +kernel
theorem fund_5 : fund 5 = true := by decide +kernel
theorem fund_4 : fund (-4) = true := by decide +kernel
theorem eq_text {a b : ByteArray} (h : a.data = b.data) : (a.toList == b.toList) = true := by
  have : a = b := ByteArray.ext h
  rw [this]; simp
theorem lawake : Fn Tryz.prog TabE 12 [] (ex (.bool true)) := by
  have A1 := bnumber TabE 12 (by omega)
  have A2 := lshown TabE (bern 12) _ (rformat_frac TabE (bern 12) 3 4 ((bern_sz (by omega)).mono (by omega)) (by decide +kernel) (by decide +kernel) (by omega) (by decide +kernel) (by omega) (by decide +kernel) (by omega) (by decide +kernel) (by omega))
  have B1 := bgen 1 (-23) (by omega) (by omega) fund_23
  have B2 := lshown TabE ((-3 : Int) : Rat) _ (rformat_whole TabE ((-3 : Int) : Rat) 1 ((sz_z (by omega) (by omega)).mono (by omega)) (by decide +kernel) (by decide +kernel) (by omega) (by decide +kernel) (by omega))
  rw [show ((-23 : Int)).natAbs = 23 from rfl, show 1 + 1 = 2 from rfl, gen_23] at B1
  have D1 := bgen 2 5 (by omega) (by omega) fund_5
  rw [show ((5 : Int)).natAbs = 5 from rfl, show 2 + 1 = 3 from rfl, gen_5] at D1
  have D2 := lshown TabE (mkRat 4 5) _ (rformat_frac TabE (mkRat 4 5) 1 1 ((sz_two (by decide +kernel)).mono (by omega)) (by decide +kernel) (by decide +kernel) (by omega) (by decide +kernel) (by omega) (by decide +kernel) (by omega) (by decide +kernel) (by omega))
  have E1 := bfund (-4)
  rw [fund_4] at E1
  have t1 : ((txt (fmtL (bern 12).num 3) ++ (⟨#[47]⟩ : ByteArray) ++ txt (fmtL (bern 12).den 4)).toList == (⟨#[45, 54, 57, 49, 47, 50, 55, 51, 48]⟩ : ByteArray).toList) = true := eq_text (by rw [ByteArray.data_append, ByteArray.data_append]; decide +kernel)
  have t2 : ((txt (fmtL ((-3 : Int) : Rat).num 1)).toList == (⟨#[45, 51]⟩ : ByteArray).toList) = true := eq_text (by decide +kernel)
  have t3 : ((txt (fmtL (mkRat 4 5).num 1) ++ (⟨#[47]⟩ : ByteArray) ++ txt (fmtL (mkRat 4 5).den 1)).toList == (⟨#[52, 47, 53]⟩ : ByteArray).toList) = true := eq_text (by rw [ByteArray.data_append, ByteArray.data_append]; decide +kernel)
  refine fn_of_body Tryz.func12 rfl Tryz.ntmps12 rfl ?_
  intro w0 h0
  repeat (first | refine js ?_ | refine jb ?_)
  refine jr ?_
  refine ja rfl ?_
  refine RG.nil (by kernel_rfl) ?_
  repeat (first | refine js ?_ | refine jb ?_)
  refine jr ?_
  refine jS (ru_call A1 ⟨rfl, trivial⟩) ?_
  refine jS (rt_extract rfl rfl) ?_
  refine jS (rt_extract rfl rfl) ?_
  refine jS (ru_call A2 ⟨rfl, rfl, trivial⟩) ?_
  refine jS (rt_bin_to rfl rfl (fun w => run_eqs w CStr.ok _ _ _ _) (vbool t1)) ?_
  refine jm rfl ?_
  first | refine RG.S0 (LT.run rfl rfl rfl (ru_call B1 ⟨rfl, rfl, trivial⟩)) ?_ | refine RG.S0 (LT.skip rfl rfl rfl) ?_
  first | refine RG.S0 (LT.run rfl rfl rfl (rt_extract rfl rfl)) ?_ | refine RG.S0 (LT.skip rfl rfl rfl) ?_
  first | refine RG.S0 (LT.run rfl rfl rfl (rt_extract rfl rfl)) ?_ | refine RG.S0 (LT.skip rfl rfl rfl) ?_
  first | refine RG.S0 (LT.run rfl rfl rfl (ru_call B2 ⟨rfl, rfl, trivial⟩)) ?_ | refine RG.S0 (LT.skip rfl rfl rfl) ?_
  first | refine RG.S0 (LT.run rfl rfl rfl (rt_bin_to rfl rfl (fun w => run_eqs w CStr.ok _ _ _ _) (vbool t2))) ?_ | refine RG.S0 (LT.skip rfl rfl rfl) ?_
  first | refine jS (rt_pick_true rfl rfl) ?_ | refine jS (rt_pick_false rfl rfl) ?_
  refine jm rfl ?_
  first | refine RG.S0 (LT.run rfl rfl rfl (ru_call D1 ⟨rfl, rfl, trivial⟩)) ?_ | refine RG.S0 (LT.skip rfl rfl rfl) ?_
  first | refine RG.S0 (LT.run rfl rfl rfl (rt_extract rfl rfl)) ?_ | refine RG.S0 (LT.skip rfl rfl rfl) ?_
  first | refine RG.S0 (LT.run rfl rfl rfl (rt_extract rfl rfl)) ?_ | refine RG.S0 (LT.skip rfl rfl rfl) ?_
  first | refine RG.S0 (LT.run rfl rfl rfl (ru_call D2 ⟨rfl, rfl, trivial⟩)) ?_ | refine RG.S0 (LT.skip rfl rfl rfl) ?_
  first | refine RG.S0 (LT.run rfl rfl rfl (rt_bin_to rfl rfl (fun w => run_eqs w CStr.ok _ _ _ _) (vbool t3))) ?_ | refine RG.S0 (LT.skip rfl rfl rfl) ?_
  first | refine jS (rt_pick_true rfl rfl) ?_ | refine jS (rt_pick_false rfl rfl) ?_
  refine jm rfl ?_
  first | refine RG.S0 (LT.run rfl rfl rfl (ru_call E1 ⟨rfl, trivial⟩)) ?_ | refine RG.S0 (LT.skip rfl rfl rfl) ?_
  first | refine jS (rt_pick_true rfl rfl) ?_ | refine jS (rt_pick_false rfl rfl) ?_
  refine ja rfl ?_
  refine RG.nil (by kernel_rfl) ?_
  repeat (first | refine js ?_ | refine jb ?_)
  refine WpD.ret ?_
  exact ret1 rfl (.tmp rfl) (PLe.refl _)
end Go.Proofs.YtgbiccenhionaaaGreatDoor

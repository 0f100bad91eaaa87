/- Rational numbers of the program: lowest, Whole, Normalize, sum, product, Add, Sub, Mul, Quo, Neg, Sign, Pow, Cmp. -/
import Derived.Test.YtpiflllcjgpkhaaGreatDoorIc
import Derived.Test.YtpiflllcjgpkhaaGreatDoorQv
set_option maxRecDepth 3000
namespace Go.Proofs.YtpiflllcjgpkhaaGreatDoor
open Go.RowKit Limb
instance crow_rat : CRow Tryz.prog 27 4 := ⟨⟨_, Tryz.underlying27, rfl, by kernel_rfl⟩⟩
instance cfield_rat0 : CField Tryz.prog 27 0 0 := ⟨⟨_, _, Tryz.underlying27, rfl, rfl, by kernel_rfl⟩⟩
instance cfield_rat1 : CField Tryz.prog 27 1 2 := ⟨⟨_, _, Tryz.underlying27, rfl, rfl, by kernel_rfl⟩⟩
instance cfieldt_rat0 : CFieldT Tryz.prog 27 0 0 25 := ⟨⟨_, _, Tryz.underlying27, rfl, rfl, rfl⟩⟩
instance cfieldt_rat1 : CFieldT Tryz.prog 27 1 2 25 := ⟨⟨_, _, Tryz.underlying27, rfl, rfl, rfl⟩⟩
theorem zero_rat : ZeroOf Tryz.prog 27 [.bool false, .slice none 0 0, .bool false, .slice none 0 0] := ⟨by kernel_rfl, by simp [Value.oneCell']⟩
instance czero_rat : CZero Tryz.prog 27 [.bool false, .slice none 0 0, .bool false, .slice none 0 0] := ⟨zero_rat⟩
instance cstruct_rat : CStruct Tryz.prog 27 [(0, 2), (2, 2)] [.bool false, .slice none 0 0, .bool false, .slice none 0 0] := ⟨⟨zero_rat, _, Tryz.underlying27, fun _ => by kernel_rfl⟩⟩
instance crow_fr : CRow Tryz.prog 85 4 := ⟨⟨_, Tryz.underlying85, rfl, by kernel_rfl⟩⟩
instance cfield_fr0 : CField Tryz.prog 85 0 0 := ⟨⟨_, _, Tryz.underlying85, rfl, rfl, by kernel_rfl⟩⟩
instance cfield_fr1 : CField Tryz.prog 85 1 2 := ⟨⟨_, _, Tryz.underlying85, rfl, rfl, by kernel_rfl⟩⟩
instance cfieldt_fr0 : CFieldT Tryz.prog 85 0 0 25 := ⟨⟨_, _, Tryz.underlying85, rfl, rfl, rfl⟩⟩
instance cfieldt_fr1 : CFieldT Tryz.prog 85 1 2 25 := ⟨⟨_, _, Tryz.underlying85, rfl, rfl, rfl⟩⟩
instance czero_fr : CZero Tryz.prog 85 [.bool false, .slice none 0 0, .bool false, .slice none 0 0] := ⟨⟨by kernel_rfl, by simp [Value.oneCell']⟩⟩
instance cslice_rat : CSlice Tryz.prog 124 27 := ⟨Tryz.underlying124⟩
instance celem_rat : CElem Tryz.prog 124 27 4 := ⟨Tryz.underlying124, by kernel_rfl⟩
instance crowz_rat : CRowZ Tryz.prog 27 4 [.bool false, .slice none 0 0, .bool false, .slice none 0 0] 64 := ⟨by kernel_rfl, rfl, rfl⟩
instance cbody59 : CBody Tryz.prog 59 := ⟨⟨_, Tryz.func59, rfl, by rfl⟩⟩
instance cbody60 : CBody Tryz.prog 60 := ⟨⟨_, Tryz.func60, rfl, by rfl⟩⟩
instance cbody76 : CBody Tryz.prog 76 := ⟨⟨_, Tryz.func76, rfl, by rfl⟩⟩
instance cbody49 : CBody Tryz.prog 49 := ⟨⟨_, Tryz.func49, rfl, by rfl⟩⟩
instance cbody96 : CBody Tryz.prog 96 := ⟨⟨_, Tryz.func96, rfl, by rfl⟩⟩
instance cbody62 : CBody Tryz.prog 62 := ⟨⟨_, Tryz.func62, rfl, by rfl⟩⟩
instance cbody65 : CBody Tryz.prog 65 := ⟨⟨_, Tryz.func65, rfl, by rfl⟩⟩
instance cbody35 : CBody Tryz.prog 35 := ⟨⟨_, Tryz.func35, rfl, by rfl⟩⟩
instance cbody39 : CBody Tryz.prog 39 := ⟨⟨_, Tryz.func39, rfl, by rfl⟩⟩
instance cbody97 : CBody Tryz.prog 97 := ⟨⟨_, Tryz.func97, rfl, by rfl⟩⟩
instance cbody33 : CBody Tryz.prog 33 := ⟨⟨_, Tryz.func33, rfl, by rfl⟩⟩
instance cbody50 : CBody Tryz.prog 50 := ⟨⟨_, Tryz.func50, rfl, by rfl⟩⟩
instance cbody57 : CBody Tryz.prog 57 := ⟨⟨_, Tryz.func57, rfl, by rfl⟩⟩
section
variable (En : Ev)
/-! Contracts for canonical integers. -/
theorem ksmall (n : Int) (h1 : -9223372036854775808 ≤ n) (h2 : n ≤ 9223372036854775807) : Fn Tryz.prog En 61 [ex (.int .i64 n)] (zC n) := ismall En n h1 h2
theorem ksign (a : Int) (ha : zl a ≤ 274877906944) : Fn Tryz.prog En 88 [zC a] (ex (.int .i64 (sg3 a))) := by
  have := isign En (decide (a < 0)) _ (lm_digs a.natAbs) (Nat.le_trans ha (by omega))
  rwa [zv_C] at this
theorem kneg (a : Int) (ha : zl a ≤ 274877906944) : Fn Tryz.prog En 91 [zC a] (zC (-a)) := by
  have := ineg En (decide (a < 0)) _ (lm_digs a.natAbs) ha
  rwa [zv_C] at this
theorem kmul (a b : Int) (ha : zl a ≤ 274877906944) (hb : zl b ≤ 274877906944) : Fn Tryz.prog En 89 [zC a, zC b] (zC (a * b)) := by
  have := imul En (decide (a < 0)) _ (decide (b < 0)) _ (lm_digs a.natAbs) (lm_digs b.natAbs) ha hb
  rwa [zv_C, zv_C] at this
theorem kadd (a b : Int) (ha : zl a ≤ 274877906944) (hb : zl b ≤ 274877906944) : Fn Tryz.prog En 121 [zC a, zC b] (zC (a + b)) := by
  have := iadd En (decide (a < 0)) _ (decide (b < 0)) _ (lm_digs a.natAbs) (lm_digs b.natAbs) ha hb
  rwa [zv_C, zv_C] at this
theorem kcmp (a b : Int) (ha : zl a ≤ 274877906944) (hb : zl b ≤ 274877906944) : Fn Tryz.prog En 77 [zC a, zC b] (ex (.int .i64 (cmpZ a b))) := by
  have := icmp En (decide (a < 0)) _ (decide (b < 0)) _ (lm_digs a.natAbs) (lm_digs b.natAbs) ha hb
  rwa [zv_C, zv_C] at this
theorem kpow (a : Int) (n : Nat) (ha : zl a ≤ 1073741824) (hn : n ≤ 64) : Fn Tryz.prog En 58 [zC a, ex (.int .i64 (n : Int))] (tupP [zC (a ^ n), ex (.bool true)]) := by
  have := ipow En (decide (a < 0)) _ n (lm_digs a.natAbs) ha hn
  rwa [zv_C] at this
/-! Rational numbers. -/
theorem rlowest (s : Bool) (l : List Nat) (s' : Bool) (l' : List Nat) (hl : Lm l) (hl' : Lm l') (hlen : l.length ≤ 274877906944) (hlen' : l'.length ≤ 274877906944) (hd : zv s' l' ≠ 0) :
    Fn Tryz.prog En 59 [zR s l, zR s' l'] (qC (Rat.divInt (zv s l) (zv s' l'))) := by
  rw [qC_low _ hd]
  have hg0 := gd_ne (n := zv s l) hd
  have hgl : zl (gd (zv s l) (zv s' l')) ≤ 274877906944 := by
    have h1 : (gd (zv s l) (zv s' l')).natAbs ≤ (zv s' l').natAbs := Nat.le_of_dvd (Int.natAbs_pos.2 hd) (Int.natAbs_dvd_natAbs.2 (gd_dvd _ _).2)
    exact Nat.le_trans (zl_mono h1) (Nat.le_trans (zl_zv _ hl') hlen')
  have C1 := igcd En s l s' l' hl hl' hlen hlen'
  have C2 := isign En s' l' hl' (by omega)
  have C3 := idivmod En s l (decide (gd (zv s l) (zv s' l') < 0)) (digs (gd (zv s l) (zv s' l')).natAbs) hl (lm_digs _) hlen hgl (by rw [zv_C]; exact hg0)
  have C4 := idivmod En s' l' (decide (gd (zv s l) (zv s' l') < 0)) (digs (gd (zv s l) (zv s' l')).natAbs) hl' (lm_digs _) hlen' hgl (by rw [zv_C]; exact hg0)
  rw [zv_C] at C3 C4
  by_cases hn : zv s' l' < 0
  · have e : gd (zv s l) (zv s' l') = -((Nat.gcd (zv s l).natAbs (zv s' l').natAbs : Nat) : Int) := by unfold gd; rw [if_pos hn]
    have C5 := kneg En ((Nat.gcd (zv s l).natAbs (zv s' l').natAbs : Nat) : Int) (by rw [← zl_neg, ← e]; exact hgl)
    rw [← e] at C5
    have hs : sg3 (zv s' l') < 0 := by unfold sg3; rw [if_neg hd, if_pos hn]; decide
    refine fn_of_body Tryz.func59 rfl Tryz.ntmps59 rfl ?_
    intro w0 h0
    repeat (first | refine js ?_ | refine jb ?_)
    refine jr ?_
    refine jT (ru_boxR rfl rfl rfl) ?_
    refine jT (ru_boxR rfl rfl rfl) ?_
    refine jT (ru_alloc rfl rfl rfl) ?_
    refine RG.nil (by kernel_rfl) ?_
    repeat (first | refine js ?_ | refine jb ?_)
    refine jr ?_
    refine jS (ru_loadR rfl rfl rfl rfl) ?_
    refine jS (ru_loadR rfl rfl rfl rfl) ?_
    refine jS (ru_call C1 ⟨rfl, rfl, trivial⟩) ?_
    refine jT (ru_alloc rfl rfl rfl) ?_
    refine jO (ru_storeR rfl rfl rfl rfl rfl rfl) ?_
    refine RG.nil (by kernel_rfl) ?_
    repeat (first | refine js ?_ | refine jb ?_)
    refine jr ?_
    refine jS (ru_loadR rfl rfl rfl rfl) ?_
    refine jS (ru_call C2 ⟨rfl, trivial⟩) ?_
    refine jS (rt_bin_to rfl rfl (fun w => run_lti w _ _ _ _ _ _) (vbool (decide_eq_true (by first | assumption | omega)))) ?_
    refine RG.nil (by kernel_rfl) ?_
    repeat (first | refine js ?_ | refine jb ?_)
    refine WpD.condT rfl ?_
    repeat (first | refine js ?_ | refine jb ?_)
    refine jr ?_
    refine jS (ru_loadR rfl rfl rfl rfl) ?_
    refine jS (ru_call C5 ⟨rfl, trivial⟩) ?_
    refine jO (ru_storeR rfl rfl rfl rfl rfl rfl) ?_
    refine RG.nil (by kernel_rfl) ?_
    repeat (first | refine js ?_ | refine jb ?_)
    refine jr ?_
    refine jS (ru_loadR rfl rfl rfl rfl) ?_
    refine jS (ru_loadR rfl rfl rfl rfl) ?_
    refine jS (ru_call C3 ⟨rfl, rfl, trivial⟩) ?_
    refine jm rfl ?_
    refine jS (rt_extract rfl rfl) ?_
    refine jS (rt_extract rfl rfl) ?_
    refine jS (rt_extract rfl rfl) ?_
    refine jO (ru_storeR rfl rfl rfl rfl rfl rfl) ?_
    refine RG.nil (by kernel_rfl) ?_
    repeat (first | refine js ?_ | refine jb ?_)
    refine jr ?_
    refine jS (ru_loadR rfl rfl rfl rfl) ?_
    refine jS (ru_loadR rfl rfl rfl rfl) ?_
    refine jS (ru_call C4 ⟨rfl, rfl, trivial⟩) ?_
    refine jm rfl ?_
    refine jS (rt_extract rfl rfl) ?_
    refine jS (rt_extract rfl rfl) ?_
    refine jS (rt_extract rfl rfl) ?_
    refine jO (ru_storeR rfl rfl rfl rfl rfl rfl) ?_
    refine RG.nil (by kernel_rfl) ?_
    repeat (first | refine js ?_ | refine jb ?_)
    refine jr ?_
    refine jS (ru_loadR rfl rfl rfl rfl) ?_
    refine jS (ru_loadR rfl rfl rfl rfl) ?_
    refine jS (ru_build (ps := [(_, _), (_, _)]) ⟨rfl, Part.c rfl, rfl, Part.c rfl, trivial⟩ rfl) ?_
    refine jO (ru_storeR rfl rfl rfl rfl rfl rfl) ?_
    refine RG.nil (by kernel_rfl) ?_
    repeat (first | refine js ?_ | refine jb ?_)
    refine WpD.ret ?_
    exact ret1 rfl (.cell rfl rfl CRow.ok rfl) (PLe.refl _)
  · have e : gd (zv s l) (zv s' l') = ((Nat.gcd (zv s l).natAbs (zv s' l').natAbs : Nat) : Int) := by unfold gd; rw [if_neg hn]
    rw [← e] at C1
    have hs : ¬ sg3 (zv s' l') < 0 := by unfold sg3; rw [if_neg hd, if_neg hn]; decide
    refine fn_of_body Tryz.func59 rfl Tryz.ntmps59 rfl ?_
    intro w0 h0
    repeat (first | refine js ?_ | refine jb ?_)
    refine jr ?_
    refine jT (ru_boxR rfl rfl rfl) ?_
    refine jT (ru_boxR rfl rfl rfl) ?_
    refine jT (ru_alloc rfl rfl rfl) ?_
    refine RG.nil (by kernel_rfl) ?_
    repeat (first | refine js ?_ | refine jb ?_)
    refine jr ?_
    refine jS (ru_loadR rfl rfl rfl rfl) ?_
    refine jS (ru_loadR rfl rfl rfl rfl) ?_
    refine jS (ru_call C1 ⟨rfl, rfl, trivial⟩) ?_
    refine jT (ru_alloc rfl rfl rfl) ?_
    refine jO (ru_storeR rfl rfl rfl rfl rfl rfl) ?_
    refine RG.nil (by kernel_rfl) ?_
    repeat (first | refine js ?_ | refine jb ?_)
    refine jr ?_
    refine jS (ru_loadR rfl rfl rfl rfl) ?_
    refine jS (ru_call C2 ⟨rfl, trivial⟩) ?_
    refine jS (rt_bin_to rfl rfl (fun w => run_lti w _ _ _ _ _ _) (vbool (decide_eq_false (by first | assumption | omega)))) ?_
    refine RG.nil (by kernel_rfl) ?_
    repeat (first | refine js ?_ | refine jb ?_)
    refine WpD.condF rfl ?_
    repeat (first | refine js ?_ | refine jb ?_)
    refine WpD.skip ?_
    repeat (first | refine js ?_ | refine jb ?_)
    refine jr ?_
    refine jS (ru_loadR rfl rfl rfl rfl) ?_
    refine jS (ru_loadR rfl rfl rfl rfl) ?_
    refine jS (ru_call C3 ⟨rfl, rfl, trivial⟩) ?_
    refine jm rfl ?_
    refine jS (rt_extract rfl rfl) ?_
    refine jS (rt_extract rfl rfl) ?_
    refine jS (rt_extract rfl rfl) ?_
    refine jO (ru_storeR rfl rfl rfl rfl rfl rfl) ?_
    refine RG.nil (by kernel_rfl) ?_
    repeat (first | refine js ?_ | refine jb ?_)
    refine jr ?_
    refine jS (ru_loadR rfl rfl rfl rfl) ?_
    refine jS (ru_loadR rfl rfl rfl rfl) ?_
    refine jS (ru_call C4 ⟨rfl, rfl, trivial⟩) ?_
    refine jm rfl ?_
    refine jS (rt_extract rfl rfl) ?_
    refine jS (rt_extract rfl rfl) ?_
    refine jS (rt_extract rfl rfl) ?_
    refine jO (ru_storeR rfl rfl rfl rfl rfl rfl) ?_
    refine RG.nil (by kernel_rfl) ?_
    repeat (first | refine js ?_ | refine jb ?_)
    refine jr ?_
    refine jS (ru_loadR rfl rfl rfl rfl) ?_
    refine jS (ru_loadR rfl rfl rfl rfl) ?_
    refine jS (ru_build (ps := [(_, _), (_, _)]) ⟨rfl, Part.c rfl, rfl, Part.c rfl, trivial⟩ rfl) ?_
    refine jO (ru_storeR rfl rfl rfl rfl rfl rfl) ?_
    refine RG.nil (by kernel_rfl) ?_
    repeat (first | refine js ?_ | refine jb ?_)
    refine WpD.ret ?_
    exact ret1 rfl (.cell rfl rfl CRow.ok rfl) (PLe.refl _)
theorem klowest (a b : Int) (ha : zl a ≤ 274877906944) (hb : zl b ≤ 274877906944) (h : b ≠ 0) : Fn Tryz.prog En 59 [zC a, zC b] (qC (Rat.divInt a b)) := by
  have := rlowest En (decide (a < 0)) _ (decide (b < 0)) _ (lm_digs a.natAbs) (lm_digs b.natAbs) ha hb (by rw [zv_C]; exact h)
  rwa [zv_C, zv_C] at this
theorem rwhole (s : Bool) (l : List Nat) (hl : Lm l) (hlen : l.length ≤ 274877906944) : Fn Tryz.prog En 60 [zR s l] (qC (zv s l : Rat)) := by
  have C1 := inormalize En s l hl hlen
  have C2 := ksmall En 1 (by omega) (by omega)
  have e : qC ((zv s l : Int) : Rat) = aggP [ex (.bool (decide (zv s l < 0))), mag (digs (zv s l).natAbs), ex (.bool (decide ((1 : Int) < 0))), mag (digs (1 : Int).natAbs)] := by
    unfold qC qP RQ.cells RQ.of
    rw [Rat.num_intCast, Rat.den_intCast]
    rfl
  rw [e]
  refine fn_of_body Tryz.func60 rfl Tryz.ntmps60 rfl ?_
  intro w0 h0
  repeat (first | refine js ?_ | refine jb ?_)
  refine jr ?_
  refine jT (ru_boxR rfl rfl rfl) ?_
  refine jT (ru_alloc rfl rfl rfl) ?_
  refine RG.nil (by kernel_rfl) ?_
  repeat (first | refine js ?_ | refine jb ?_)
  refine jr ?_
  refine jS (ru_loadR rfl rfl rfl rfl) ?_
  refine jS (ru_call C1 ⟨rfl, trivial⟩) ?_
  refine jS (ru_call C2 ⟨rfl, trivial⟩) ?_
  refine jS (ru_build (ps := [(_, _), (_, _)]) ⟨rfl, Part.c rfl, rfl, Part.c rfl, trivial⟩ rfl) ?_
  refine jO (ru_storeR rfl rfl rfl rfl rfl rfl) ?_
  refine RG.nil (by kernel_rfl) ?_
  repeat (first | refine js ?_ | refine jb ?_)
  refine WpD.ret ?_
  exact ret1 rfl (.cell rfl rfl CRow.ok rfl) (PLe.refl _)
theorem kwhole (a : Int) (ha : zl a ≤ 274877906944) : Fn Tryz.prog En 60 [zC a] (qC (a : Rat)) := by
  have := rwhole En (decide (a < 0)) _ (lm_digs a.natAbs) ha
  rwa [zv_C] at this
theorem rnormalize (p : RQ) (hp : p.ok) : Fn Tryz.prog En 76 [qP p] (qC p.v) := by
  have hll := hp.ll
  have hml := hp.ml
  have C1 := isign En p.t p.m hp.m (by omega)
  by_cases hz : zv p.t p.m = 0
  · have e : p.v = ((0 : Int) : Rat) := by unfold RQ.v; rw [hz, Rat.divInt_zero]; rfl
    rw [e]
    have hs : sg3 (zv p.t p.m) = 0 := by rw [hz]; rfl
    have C2 := (kwhole En 0 (by decide)).arg (ps := [aggP [ex (.bool false), ex (.slice none 0 0)]]) ⟨zC_nil, trivial⟩
    refine fn_of_body Tryz.func76 rfl Tryz.ntmps76 rfl ?_
    intro w0 h0
    repeat (first | refine js ?_ | refine jb ?_)
    refine jr ?_
    refine jT (ru_boxR rfl rfl rfl) ?_
    refine jT (ru_alloc rfl rfl rfl) ?_
    refine RG.nil (by kernel_rfl) ?_
    repeat (first | refine js ?_ | refine jb ?_)
    refine jr ?_
    refine jS (ru_fieldAddr rfl rfl) ?_
    refine jS (ru_loadR rfl rfl rfl rfl) ?_
    refine jS (ru_call C1 ⟨rfl, trivial⟩) ?_
    refine jS (rt_bin_to rfl rfl (fun w => run_eqi w _ _ _ _ _ _) (vbool (beqT (by first | assumption | omega)))) ?_
    refine RG.nil (by kernel_rfl) ?_
    repeat (first | refine js ?_ | refine jb ?_)
    refine WpD.condT rfl ?_
    repeat (first | refine js ?_ | refine jb ?_)
    refine jr ?_
    refine jS (ru_build (ps := []) trivial rfl) ?_
    refine jS (ru_call C2 ⟨rfl, trivial⟩) ?_
    refine jO (ru_storeR rfl rfl rfl rfl rfl rfl) ?_
    refine RG.nil (by kernel_rfl) ?_
    repeat (first | refine js ?_ | refine jb ?_)
    refine WpD.ret ?_
    exact ret1 rfl (.cell rfl rfl CRow.ok rfl) (PLe.refl _)
  · have hs : sg3 (zv p.t p.m) ≠ 0 := by unfold sg3; rw [if_neg hz]; split <;> decide
    have C2 := rlowest En p.s p.l p.t p.m hp.l hp.m (by omega) (by omega) hz
    refine fn_of_body Tryz.func76 rfl Tryz.ntmps76 rfl ?_
    intro w0 h0
    repeat (first | refine js ?_ | refine jb ?_)
    refine jr ?_
    refine jT (ru_boxR rfl rfl rfl) ?_
    refine jT (ru_alloc rfl rfl rfl) ?_
    refine RG.nil (by kernel_rfl) ?_
    repeat (first | refine js ?_ | refine jb ?_)
    refine jr ?_
    refine jS (ru_fieldAddr rfl rfl) ?_
    refine jS (ru_loadR rfl rfl rfl rfl) ?_
    refine jS (ru_call C1 ⟨rfl, trivial⟩) ?_
    refine jS (rt_bin_to rfl rfl (fun w => run_eqi w _ _ _ _ _ _) (vbool (beqF (by first | assumption | omega)))) ?_
    refine RG.nil (by kernel_rfl) ?_
    repeat (first | refine js ?_ | refine jb ?_)
    refine WpD.condF rfl ?_
    repeat (first | refine js ?_ | refine jb ?_)
    refine WpD.skip ?_
    repeat (first | refine js ?_ | refine jb ?_)
    refine jr ?_
    refine jS (ru_fieldAddr rfl rfl) ?_
    refine jS (ru_loadR rfl rfl rfl rfl) ?_
    refine jS (ru_fieldAddr rfl rfl) ?_
    refine jS (ru_loadR rfl rfl rfl rfl) ?_
    refine jS (ru_call C2 ⟨rfl, rfl, trivial⟩) ?_
    refine jO (ru_storeR rfl rfl rfl rfl rfl rfl) ?_
    refine RG.nil (by kernel_rfl) ?_
    repeat (first | refine js ?_ | refine jb ?_)
    refine WpD.ret ?_
    exact ret1 rfl (.cell rfl rfl CRow.ok rfl) (PLe.refl _)
theorem rcanonical (p : RQ) (hp : p.ok) : Fn Tryz.prog En 49 [qP p] (qC p.v) := by
  have C1 := rnormalize En p hp
  refine fn_of_body Tryz.func49 rfl Tryz.ntmps49 rfl ?_
  intro w0 h0
  repeat (first | refine js ?_ | refine jb ?_)
  refine jr ?_
  refine jT (ru_boxR rfl rfl rfl) ?_
  refine jT (ru_alloc rfl rfl rfl) ?_
  refine RG.nil (by kernel_rfl) ?_
  repeat (first | refine js ?_ | refine jb ?_)
  refine jr ?_
  refine jS (ru_loadR rfl rfl rfl rfl) ?_
  refine jS (ru_call C1 ⟨rfl, trivial⟩) ?_
  refine jO (ru_storeR rfl rfl rfl rfl rfl rfl) ?_
  refine RG.nil (by kernel_rfl) ?_
  repeat (first | refine js ?_ | refine jb ?_)
  refine WpD.ret ?_
  exact ret1 rfl (.cell rfl rfl CRow.ok rfl) (PLe.refl _)
theorem rsgn (r : Rat) (hr : Sz 1073741824 r) : Fn Tryz.prog En 57 [qC r] (ex (.int .i64 (sg3 r.num))) := by
  have C1 := ksign En r.num (Nat.le_trans hr.1 (by omega))
  refine fn_of_body Tryz.func57 rfl Tryz.ntmps57 rfl ?_
  intro w0 h0
  repeat (first | refine js ?_ | refine jb ?_)
  refine jr ?_
  refine jT (ru_boxR rfl rfl rfl) ?_
  refine ja rfl ?_
  refine RG.nil (by kernel_rfl) ?_
  repeat (first | refine js ?_ | refine jb ?_)
  refine jr ?_
  refine jS (ru_fieldAddr rfl rfl) ?_
  refine jS (ru_loadR rfl rfl rfl rfl) ?_
  refine jS (ru_call C1 ⟨rfl, trivial⟩) ?_
  refine ja rfl ?_
  refine RG.nil (by kernel_rfl) ?_
  repeat (first | refine js ?_ | refine jb ?_)
  refine WpD.ret ?_
  exact ret1 rfl (.tmp rfl) (PLe.refl _)
/-- The sum of two numbers. -/
theorem rsum (p q : RQ) (hp : p.ok) (hq : q.ok) : Fn Tryz.prog En 96 [slc 4 (p.cells ++ q.cells) 2] (qC (p.v + q.v)) := by
  have hr := RQ.sz hp
  have hs := RQ.sz hq
  have K1 := rcanonical En p hp
  have K2 := rcanonical En q hq
  generalize p.v = r at *
  generalize q.v = s at *
  obtain ⟨r1, r2⟩ := hr
  obtain ⟨s1, s2⟩ := hs
  have S1 := ksmall En 1 (by omega) (by omega)
  have z0 : zl 0 ≤ 1 := by decide
  have z1 : zl 1 ≤ 1 := by decide
  have A1 := zl_mul r.num s.den
  have A2 := zl_mul s.num r.den
  have A3 := zl_mul r.den s.den
  have A4 := zl_add (r.num * s.den) (s.num * r.den)
  let N : Nat → Int := fun i => if i = 0 then 0 else if i = 1 then r.num else r.num * s.den + s.num * r.den
  let D : Nat → Int := fun i => if i = 0 then 1 else if i = 1 then r.den else r.den * s.den
  have F := klowest En (r.num * s.den + s.num * r.den) (r.den * s.den) (by omega) (by omega) (dd_ne r s)
  rw [← rat_add] at F
  have hw1 : IntKind.i64.wrap (((0 : Nat) : Int) + 1) = ((1 : Nat) : Int) := by decide
  have hw2 : IntKind.i64.wrap (((1 : Nat) : Int) + 1) = ((2 : Nat) : Int) := by decide
  have q0 : ((p.cells ++ q.cells).drop (0 * 4)).take 4 = p.cells := rfl
  have q1 : ((p.cells ++ q.cells).drop (1 * 4)).take 4 = q.cells := rfl
  refine fn_of_body Tryz.func96 rfl Tryz.ntmps96 rfl ?_
  intro w0 h0
  repeat (first | refine js ?_ | refine jb ?_)
  refine jr ?_
  refine jT (ru_alloc rfl rfl rfl) ?_
  refine RG.nil (by kernel_rfl) ?_
  repeat (first | refine js ?_ | refine jb ?_)
  refine jr ?_
  refine jS (ru_build (ps := []) trivial rfl) ?_
  refine jS (ru_call S1 ⟨rfl, trivial⟩) ?_
  refine jT (ru_alloc rfl rfl rfl) ?_
  refine jT (ru_alloc rfl rfl rfl) ?_
  refine jO (ru_storeR rfl rfl rfl rfl rfl rfl) ?_
  refine jO (ru_storeR rfl rfl rfl rfl rfl rfl) ?_
  refine RG.nil (by kernel_rfl) ?_
  repeat (first | refine js ?_ | refine jb ?_)
  refine jr ?_
  refine jm rfl ?_
  refine jS (ru_len rfl CSlice.ok) ?_
  refine jm rfl ?_
  refine RG.nil (by kernel_rfl) ?_
  repeat (first | refine js ?_ | refine jb ?_)
  refine WpD.loop (α := {i : Nat // i ≤ 2}) (fun i => ⟨[(2, .ptr 2 0), (3, .ptr 3 0), (4, .ptr 4 0), (10, .one (slc 4 (p.cells ++ q.cells) 2)), (11, .one (ex (.int .i64 ((2 : Nat) : Int)))), (12, .one (ex (.int .i64 ((i.1 : Nat) : Int))))], [(3, zCells (N i.1)), (4, zCells (D i.1)), (2, [ex (.bool false), ex (.slice none 0 0), ex (.bool false), ex (.slice none 0 0)])]⟩) (fun i => 2 - i.1) ⟨0, by omega⟩ ?_ ?_
  · refine Sub.mk ?_ ⟨.inl ⟨_, rfl, ⟨PLe.refl _, mag_nil, trivial⟩⟩, .inl ⟨_, rfl, PsLe.refl _⟩, .inl ⟨_, rfl, PsLe.refl _⟩, trivial⟩
    repeat (first | exact trivial | refine jv rfl ?_ | refine jw rfl (js0 rfl) ?_ | refine jw rfl ⟨js0 rfl, js0 rfl⟩ ?_ | refine jx rfl ⟨js0 rfl, js0 rfl⟩ ?_ | refine jw rfl (clo_live (js0 rfl) (js0 rfl)) ?_ | refine ⟨⟨_, rfl, PLe.refl _⟩, trivial, ?_⟩)
  rintro ⟨i, hi⟩
  dsimp only
  have hcase : i = 0 ∨ i = 1 ∨ i = 2 := by omega
  rcases hcase with rfl | rfl | rfl
  · have m1 := kmul En 0 r.den (by omega) (by omega)
    have m2 := kmul En r.num 1 (by omega) (by omega)
    have m3 := kadd En (0 * r.den) (r.num * 1) (by rw [Int.zero_mul]; omega) (by rw [Int.mul_one]; omega)
    have m4 := kmul En 1 r.den (by omega) (by omega)
    rw [Int.zero_mul] at m1 m3
    rw [Int.mul_one] at m2 m3
    rw [Int.zero_add] at m3
    rw [Int.one_mul] at m4
    repeat (first | refine js ?_ | refine jb ?_)
    refine jr ?_
    refine jS (rt_bin_to rfl rfl (fun w => run_lti w _ _ _ _ _ _) (vbool (decide_eq_true (by first | assumption | omega)))) ?_
    refine RG.nil (by kernel_rfl) ?_
    repeat (first | refine js ?_ | refine jb ?_)
    refine WpD.condT rfl ?_
    repeat (first | refine js ?_ | refine jb ?_)
    refine WpD.skip ?_
    repeat (first | refine js ?_ | refine jb ?_)
    refine jr ?_
    refine jS (rc_indexS rfl rfl (by first | assumption | omega) (by assumption)) ?_
    refine jS (rc_loadR rfl rfl rfl) ?_
    refine jT (ru_alloc rfl rfl rfl) ?_
    refine jO (ru_storeR rfl rfl rfl rfl rfl rfl) ?_
    refine RG.nil (by kernel_rfl) ?_
    repeat (first | refine js ?_ | refine jb ?_)
    refine jr ?_
    refine jS (ru_loadR rfl rfl rfl rfl) ?_
    refine jS (ru_call K1 ⟨rfl, trivial⟩) ?_
    refine jT (ru_alloc rfl rfl rfl) ?_
    refine jO (ru_storeR rfl rfl rfl rfl rfl rfl) ?_
    refine RG.nil (by kernel_rfl) ?_
    repeat (first | refine js ?_ | refine jb ?_)
    refine jr ?_
    refine jS (ru_loadR rfl rfl rfl rfl) ?_
    refine jS (ru_fieldAddr rfl rfl) ?_
    refine jS (ru_loadR rfl rfl rfl rfl) ?_
    refine jS (ru_call m1 ⟨rfl, rfl, trivial⟩) ?_
    refine jS (ru_fieldAddr rfl rfl) ?_
    refine jS (ru_loadR rfl rfl rfl rfl) ?_
    refine jS (ru_loadR rfl rfl rfl rfl) ?_
    refine jS (ru_call m2 ⟨rfl, rfl, trivial⟩) ?_
    refine jS (ru_call m3 ⟨rfl, rfl, trivial⟩) ?_
    refine jO (ru_storeR rfl rfl rfl rfl rfl rfl) ?_
    refine RG.nil (by kernel_rfl) ?_
    repeat (first | refine js ?_ | refine jb ?_)
    refine jr ?_
    refine jS (ru_loadR rfl rfl rfl rfl) ?_
    refine jS (ru_fieldAddr rfl rfl) ?_
    refine jS (ru_loadR rfl rfl rfl rfl) ?_
    refine jS (ru_call m4 ⟨rfl, rfl, trivial⟩) ?_
    refine jO (ru_storeR rfl rfl rfl rfl rfl rfl) ?_
    refine RG.nil (by kernel_rfl) ?_
    repeat (first | refine js ?_ | refine jb ?_)
    refine jr ?_
    refine jS (rt_bin_to rfl rfl (fun w => run_addi w _ _ _ _ _ _) (vint hw1)) ?_
    refine jm rfl ?_
    refine RG.nil (by kernel_rfl) ?_
    refine ⟨⟨1, by omega⟩, ?_, by dsimp only; omega⟩
    refine Sub.mk ?_ ?_
    · repeat (first | exact trivial | refine jv rfl ?_ | refine jw rfl (js0 rfl) ?_ | refine jw rfl ⟨js0 rfl, js0 rfl⟩ ?_ | refine jx rfl ⟨js0 rfl, js0 rfl⟩ ?_ | refine jw rfl (clo_live (js0 rfl) (js0 rfl)) ?_ | refine ⟨⟨_, rfl, PLe.refl _⟩, trivial, ?_⟩)
    · repeat (first | exact trivial | refine jz ?_ | refine jy rfl ?_)
  · have m1 := kmul En r.num s.den (by omega) (by omega)
    have m2 := kmul En s.num r.den (by omega) (by omega)
    have m3 := kadd En (r.num * s.den) (s.num * r.den) (by omega) (by omega)
    have m4 := kmul En r.den s.den (by omega) (by omega)
    repeat (first | refine js ?_ | refine jb ?_)
    refine jr ?_
    refine jS (rt_bin_to rfl rfl (fun w => run_lti w _ _ _ _ _ _) (vbool (decide_eq_true (by first | assumption | omega)))) ?_
    refine RG.nil (by kernel_rfl) ?_
    repeat (first | refine js ?_ | refine jb ?_)
    refine WpD.condT rfl ?_
    repeat (first | refine js ?_ | refine jb ?_)
    refine WpD.skip ?_
    repeat (first | refine js ?_ | refine jb ?_)
    refine jr ?_
    refine jS (rc_indexS rfl rfl (by first | assumption | omega) (by assumption)) ?_
    refine jS (rc_loadR rfl rfl rfl) ?_
    refine jT (ru_alloc rfl rfl rfl) ?_
    refine jO (ru_storeR rfl rfl rfl rfl rfl rfl) ?_
    refine RG.nil (by kernel_rfl) ?_
    repeat (first | refine js ?_ | refine jb ?_)
    refine jr ?_
    refine jS (ru_loadR rfl rfl rfl rfl) ?_
    refine jS (ru_call K2 ⟨rfl, trivial⟩) ?_
    refine jT (ru_alloc rfl rfl rfl) ?_
    refine jO (ru_storeR rfl rfl rfl rfl rfl rfl) ?_
    refine RG.nil (by kernel_rfl) ?_
    repeat (first | refine js ?_ | refine jb ?_)
    refine jr ?_
    refine jS (ru_loadR rfl rfl rfl rfl) ?_
    refine jS (ru_fieldAddr rfl rfl) ?_
    refine jS (ru_loadR rfl rfl rfl rfl) ?_
    refine jS (ru_call m1 ⟨rfl, rfl, trivial⟩) ?_
    refine jS (ru_fieldAddr rfl rfl) ?_
    refine jS (ru_loadR rfl rfl rfl rfl) ?_
    refine jS (ru_loadR rfl rfl rfl rfl) ?_
    refine jS (ru_call m2 ⟨rfl, rfl, trivial⟩) ?_
    refine jS (ru_call m3 ⟨rfl, rfl, trivial⟩) ?_
    refine jO (ru_storeR rfl rfl rfl rfl rfl rfl) ?_
    refine RG.nil (by kernel_rfl) ?_
    repeat (first | refine js ?_ | refine jb ?_)
    refine jr ?_
    refine jS (ru_loadR rfl rfl rfl rfl) ?_
    refine jS (ru_fieldAddr rfl rfl) ?_
    refine jS (ru_loadR rfl rfl rfl rfl) ?_
    refine jS (ru_call m4 ⟨rfl, rfl, trivial⟩) ?_
    refine jO (ru_storeR rfl rfl rfl rfl rfl rfl) ?_
    refine RG.nil (by kernel_rfl) ?_
    repeat (first | refine js ?_ | refine jb ?_)
    refine jr ?_
    refine jS (rt_bin_to rfl rfl (fun w => run_addi w _ _ _ _ _ _) (vint hw2)) ?_
    refine jm rfl ?_
    refine RG.nil (by kernel_rfl) ?_
    refine ⟨⟨2, by omega⟩, ?_, by dsimp only; omega⟩
    refine Sub.mk ?_ ?_
    · repeat (first | exact trivial | refine jv rfl ?_ | refine jw rfl (js0 rfl) ?_ | refine jw rfl ⟨js0 rfl, js0 rfl⟩ ?_ | refine jx rfl ⟨js0 rfl, js0 rfl⟩ ?_ | refine jw rfl (clo_live (js0 rfl) (js0 rfl)) ?_ | refine ⟨⟨_, rfl, PLe.refl _⟩, trivial, ?_⟩)
    · repeat (first | exact trivial | refine jz ?_ | refine jy rfl ?_)
  · repeat (first | refine js ?_ | refine jb ?_)
    refine jr ?_
    refine jS (rt_bin_to rfl rfl (fun w => run_lti w _ _ _ _ _ _) (vbool (decide_eq_false (by first | assumption | omega)))) ?_
    refine RG.nil (by kernel_rfl) ?_
    repeat (first | refine js ?_ | refine jb ?_)
    refine WpD.condF rfl ?_
    repeat (first | refine js ?_ | refine jb ?_)
    refine WpD.exit ?_
    repeat (first | refine js ?_ | refine jb ?_)
    refine jr ?_
    refine jS (ru_loadR rfl rfl rfl rfl) ?_
    refine jS (ru_loadR rfl rfl rfl rfl) ?_
    refine jS (ru_call F ⟨rfl, rfl, trivial⟩) ?_
    refine jO (ru_storeR rfl rfl rfl rfl rfl rfl) ?_
    refine RG.nil (by kernel_rfl) ?_
    repeat (first | refine js ?_ | refine jb ?_)
    refine WpD.ret ?_
    exact ret1 rfl (.cell rfl rfl CRow.ok rfl) (PLe.refl _)
/-- The product of two numbers. -/
theorem rproduct (p q : RQ) (hp : p.ok) (hq : q.ok) : Fn Tryz.prog En 62 [slc 4 (p.cells ++ q.cells) 2] (qC (p.v * q.v)) := by
  have hr := RQ.sz hp
  have hs := RQ.sz hq
  have K1 := rcanonical En p hp
  have K2 := rcanonical En q hq
  generalize p.v = r at *
  generalize q.v = s at *
  obtain ⟨r1, r2⟩ := hr
  obtain ⟨s1, s2⟩ := hs
  have S1 := ksmall En 1 (by omega) (by omega)
  have z1 : zl 1 ≤ 1 := by decide
  have A1 := zl_mul r.num s.num
  have A3 := zl_mul r.den s.den
  let N : Nat → Int := fun i => if i = 0 then 1 else if i = 1 then r.num else r.num * s.num
  let D : Nat → Int := fun i => if i = 0 then 1 else if i = 1 then r.den else r.den * s.den
  have F := klowest En (r.num * s.num) (r.den * s.den) (by omega) (by omega) (dd_ne r s)
  rw [← rat_mul] at F
  have hw1 : IntKind.i64.wrap (((0 : Nat) : Int) + 1) = ((1 : Nat) : Int) := by decide
  have hw2 : IntKind.i64.wrap (((1 : Nat) : Int) + 1) = ((2 : Nat) : Int) := by decide
  have q0 : ((p.cells ++ q.cells).drop (0 * 4)).take 4 = p.cells := rfl
  have q1 : ((p.cells ++ q.cells).drop (1 * 4)).take 4 = q.cells := rfl
  refine fn_of_body Tryz.func62 rfl Tryz.ntmps62 rfl ?_
  intro w0 h0
  repeat (first | refine js ?_ | refine jb ?_)
  refine jr ?_
  refine jT (ru_alloc rfl rfl rfl) ?_
  refine RG.nil (by kernel_rfl) ?_
  repeat (first | refine js ?_ | refine jb ?_)
  refine jr ?_
  refine jS (ru_call S1 ⟨rfl, trivial⟩) ?_
  refine jS (ru_call S1 ⟨rfl, trivial⟩) ?_
  refine jT (ru_alloc rfl rfl rfl) ?_
  refine jT (ru_alloc rfl rfl rfl) ?_
  refine jO (ru_storeR rfl rfl rfl rfl rfl rfl) ?_
  refine jO (ru_storeR rfl rfl rfl rfl rfl rfl) ?_
  refine RG.nil (by kernel_rfl) ?_
  repeat (first | refine js ?_ | refine jb ?_)
  refine jr ?_
  refine jm rfl ?_
  refine jS (ru_len rfl CSlice.ok) ?_
  refine jm rfl ?_
  refine RG.nil (by kernel_rfl) ?_
  repeat (first | refine js ?_ | refine jb ?_)
  refine WpD.loop (α := {i : Nat // i ≤ 2}) (fun i => ⟨[(2, .ptr 2 0), (3, .ptr 3 0), (4, .ptr 4 0), (10, .one (slc 4 (p.cells ++ q.cells) 2)), (11, .one (ex (.int .i64 ((2 : Nat) : Int)))), (12, .one (ex (.int .i64 ((i.1 : Nat) : Int))))], [(3, zCells (N i.1)), (4, zCells (D i.1)), (2, [ex (.bool false), ex (.slice none 0 0), ex (.bool false), ex (.slice none 0 0)])]⟩) (fun i => 2 - i.1) ⟨0, by omega⟩ ?_ ?_
  · refine Sub.mk ?_ ?_
    · repeat (first | exact trivial | refine jv rfl ?_ | refine jw rfl (js0 rfl) ?_ | refine jw rfl ⟨js0 rfl, js0 rfl⟩ ?_ | refine jx rfl ⟨js0 rfl, js0 rfl⟩ ?_ | refine jw rfl (clo_live (js0 rfl) (js0 rfl)) ?_ | refine ⟨⟨_, rfl, PLe.refl _⟩, trivial, ?_⟩)
    · repeat (first | exact trivial | refine jz ?_ | refine jy rfl ?_)
  rintro ⟨i, hi⟩
  dsimp only
  have hcase : i = 0 ∨ i = 1 ∨ i = 2 := by omega
  rcases hcase with rfl | rfl | rfl
  · have m1 := kmul En 1 r.num (by omega) (by omega)
    have m4 := kmul En 1 r.den (by omega) (by omega)
    rw [Int.one_mul] at m1 m4
    repeat (first | refine js ?_ | refine jb ?_)
    refine jr ?_
    refine jS (rt_bin_to rfl rfl (fun w => run_lti w _ _ _ _ _ _) (vbool (decide_eq_true (by first | assumption | omega)))) ?_
    refine RG.nil (by kernel_rfl) ?_
    repeat (first | refine js ?_ | refine jb ?_)
    refine WpD.condT rfl ?_
    repeat (first | refine js ?_ | refine jb ?_)
    refine WpD.skip ?_
    repeat (first | refine js ?_ | refine jb ?_)
    refine jr ?_
    refine jS (rc_indexS rfl rfl (by first | assumption | omega) (by assumption)) ?_
    refine jS (rc_loadR rfl rfl rfl) ?_
    refine jT (ru_alloc rfl rfl rfl) ?_
    refine jO (ru_storeR rfl rfl rfl rfl rfl rfl) ?_
    refine RG.nil (by kernel_rfl) ?_
    repeat (first | refine js ?_ | refine jb ?_)
    refine jr ?_
    refine jS (ru_loadR rfl rfl rfl rfl) ?_
    refine jS (ru_call K1 ⟨rfl, trivial⟩) ?_
    refine jT (ru_alloc rfl rfl rfl) ?_
    refine jO (ru_storeR rfl rfl rfl rfl rfl rfl) ?_
    refine RG.nil (by kernel_rfl) ?_
    repeat (first | refine js ?_ | refine jb ?_)
    refine jr ?_
    refine jS (ru_loadR rfl rfl rfl rfl) ?_
    refine jS (ru_fieldAddr rfl rfl) ?_
    refine jS (ru_loadR rfl rfl rfl rfl) ?_
    refine jS (ru_call m1 ⟨rfl, rfl, trivial⟩) ?_
    refine jS (ru_loadR rfl rfl rfl rfl) ?_
    refine jS (ru_fieldAddr rfl rfl) ?_
    refine jS (ru_loadR rfl rfl rfl rfl) ?_
    refine jS (ru_call m4 ⟨rfl, rfl, trivial⟩) ?_
    refine jO (ru_storeR rfl rfl rfl rfl rfl rfl) ?_
    refine jO (ru_storeR rfl rfl rfl rfl rfl rfl) ?_
    refine RG.nil (by kernel_rfl) ?_
    repeat (first | refine js ?_ | refine jb ?_)
    refine jr ?_
    refine jS (rt_bin_to rfl rfl (fun w => run_addi w _ _ _ _ _ _) (vint hw1)) ?_
    refine jm rfl ?_
    refine RG.nil (by kernel_rfl) ?_
    refine ⟨⟨1, by omega⟩, ?_, by dsimp only; omega⟩
    refine Sub.mk ?_ ?_
    · repeat (first | exact trivial | refine jv rfl ?_ | refine jw rfl (js0 rfl) ?_ | refine jw rfl ⟨js0 rfl, js0 rfl⟩ ?_ | refine jx rfl ⟨js0 rfl, js0 rfl⟩ ?_ | refine jw rfl (clo_live (js0 rfl) (js0 rfl)) ?_ | refine ⟨⟨_, rfl, PLe.refl _⟩, trivial, ?_⟩)
    · repeat (first | exact trivial | refine jz ?_ | refine jy rfl ?_)
  · have m1 := kmul En r.num s.num (by omega) (by omega)
    have m4 := kmul En r.den s.den (by omega) (by omega)
    repeat (first | refine js ?_ | refine jb ?_)
    refine jr ?_
    refine jS (rt_bin_to rfl rfl (fun w => run_lti w _ _ _ _ _ _) (vbool (decide_eq_true (by first | assumption | omega)))) ?_
    refine RG.nil (by kernel_rfl) ?_
    repeat (first | refine js ?_ | refine jb ?_)
    refine WpD.condT rfl ?_
    repeat (first | refine js ?_ | refine jb ?_)
    refine WpD.skip ?_
    repeat (first | refine js ?_ | refine jb ?_)
    refine jr ?_
    refine jS (rc_indexS rfl rfl (by first | assumption | omega) (by assumption)) ?_
    refine jS (rc_loadR rfl rfl rfl) ?_
    refine jT (ru_alloc rfl rfl rfl) ?_
    refine jO (ru_storeR rfl rfl rfl rfl rfl rfl) ?_
    refine RG.nil (by kernel_rfl) ?_
    repeat (first | refine js ?_ | refine jb ?_)
    refine jr ?_
    refine jS (ru_loadR rfl rfl rfl rfl) ?_
    refine jS (ru_call K2 ⟨rfl, trivial⟩) ?_
    refine jT (ru_alloc rfl rfl rfl) ?_
    refine jO (ru_storeR rfl rfl rfl rfl rfl rfl) ?_
    refine RG.nil (by kernel_rfl) ?_
    repeat (first | refine js ?_ | refine jb ?_)
    refine jr ?_
    refine jS (ru_loadR rfl rfl rfl rfl) ?_
    refine jS (ru_fieldAddr rfl rfl) ?_
    refine jS (ru_loadR rfl rfl rfl rfl) ?_
    refine jS (ru_call m1 ⟨rfl, rfl, trivial⟩) ?_
    refine jS (ru_loadR rfl rfl rfl rfl) ?_
    refine jS (ru_fieldAddr rfl rfl) ?_
    refine jS (ru_loadR rfl rfl rfl rfl) ?_
    refine jS (ru_call m4 ⟨rfl, rfl, trivial⟩) ?_
    refine jO (ru_storeR rfl rfl rfl rfl rfl rfl) ?_
    refine jO (ru_storeR rfl rfl rfl rfl rfl rfl) ?_
    refine RG.nil (by kernel_rfl) ?_
    repeat (first | refine js ?_ | refine jb ?_)
    refine jr ?_
    refine jS (rt_bin_to rfl rfl (fun w => run_addi w _ _ _ _ _ _) (vint hw2)) ?_
    refine jm rfl ?_
    refine RG.nil (by kernel_rfl) ?_
    refine ⟨⟨2, by omega⟩, ?_, by dsimp only; omega⟩
    refine Sub.mk ?_ ?_
    · repeat (first | exact trivial | refine jv rfl ?_ | refine jw rfl (js0 rfl) ?_ | refine jw rfl ⟨js0 rfl, js0 rfl⟩ ?_ | refine jx rfl ⟨js0 rfl, js0 rfl⟩ ?_ | refine jw rfl (clo_live (js0 rfl) (js0 rfl)) ?_ | refine ⟨⟨_, rfl, PLe.refl _⟩, trivial, ?_⟩)
    · repeat (first | exact trivial | refine jz ?_ | refine jy rfl ?_)
  · repeat (first | refine js ?_ | refine jb ?_)
    refine jr ?_
    refine jS (rt_bin_to rfl rfl (fun w => run_lti w _ _ _ _ _ _) (vbool (decide_eq_false (by first | assumption | omega)))) ?_
    refine RG.nil (by kernel_rfl) ?_
    repeat (first | refine js ?_ | refine jb ?_)
    refine WpD.condF rfl ?_
    repeat (first | refine js ?_ | refine jb ?_)
    refine WpD.exit ?_
    repeat (first | refine js ?_ | refine jb ?_)
    refine jr ?_
    refine jS (ru_loadR rfl rfl rfl rfl) ?_
    refine jS (ru_loadR rfl rfl rfl rfl) ?_
    refine jS (ru_call F ⟨rfl, rfl, trivial⟩) ?_
    refine jO (ru_storeR rfl rfl rfl rfl rfl rfl) ?_
    refine RG.nil (by kernel_rfl) ?_
    repeat (first | refine js ?_ | refine jb ?_)
    refine WpD.ret ?_
    exact ret1 rfl (.cell rfl rfl CRow.ok rfl) (PLe.refl _)
theorem rmul (p q : RQ) (hp : p.ok) (hq : q.ok) : Fn Tryz.prog En 35 [qP p, qP q] (qC (p.v * q.v)) := by
  have C1 := rproduct En p q hp hq
  refine fn_of_body Tryz.func35 rfl Tryz.ntmps35 rfl ?_
  intro w0 h0
  repeat (first | refine js ?_ | refine jb ?_)
  refine jr ?_
  refine jT (ru_boxR rfl rfl rfl) ?_
  refine jT (ru_boxR rfl rfl rfl) ?_
  refine jT (ru_alloc rfl rfl rfl) ?_
  refine RG.nil (by kernel_rfl) ?_
  repeat (first | refine js ?_ | refine jb ?_)
  refine jr ?_
  refine jS (ru_loadR rfl rfl rfl rfl) ?_
  refine jS (ru_loadR rfl rfl rfl rfl) ?_
  refine jS (rc_buildR (ps := [(_, _), (_, _)]) ⟨rfl, Part.c rfl, rfl, Part.c rfl, trivial⟩ rfl rfl rfl) ?_
  refine jS (ru_call C1 ⟨rfl, trivial⟩) ?_
  refine jO (ru_storeR rfl rfl rfl rfl rfl rfl) ?_
  refine RG.nil (by kernel_rfl) ?_
  repeat (first | refine js ?_ | refine jb ?_)
  refine WpD.ret ?_
  exact ret1 rfl (.cell rfl rfl CRow.ok rfl) (PLe.refl _)
theorem qC_mk (r : Rat) {a b : Int} (h1 : r.num = a) (h2 : (r.den : Int) = b) : qC r = aggP [ex (.bool (decide (a < 0))), mag (digs a.natAbs), ex (.bool (decide (b < 0))), mag (digs b.natAbs)] := by
  subst h1; subst h2; rfl
theorem rneg (p : RQ) (hp : p.ok) : Fn Tryz.prog En 97 [qP p] (qC (-p.v)) := by
  have hr := RQ.sz hp
  have C1 := rcanonical En p hp
  generalize p.v = r at *
  have C2 := kneg En r.num (Nat.le_trans hr.1 (by omega))
  rw [qC_mk (-r) (a := -r.num) (b := r.den) rfl rfl]
  refine fn_of_body Tryz.func97 rfl Tryz.ntmps97 rfl ?_
  intro w0 h0
  repeat (first | refine js ?_ | refine jb ?_)
  refine jr ?_
  refine jT (ru_boxR rfl rfl rfl) ?_
  refine jT (ru_alloc rfl rfl rfl) ?_
  refine RG.nil (by kernel_rfl) ?_
  repeat (first | refine js ?_ | refine jb ?_)
  refine jr ?_
  refine jS (ru_loadR rfl rfl rfl rfl) ?_
  refine jS (ru_call C1 ⟨rfl, trivial⟩) ?_
  refine jT (ru_alloc rfl rfl rfl) ?_
  refine jO (ru_storeR rfl rfl rfl rfl rfl rfl) ?_
  refine RG.nil (by kernel_rfl) ?_
  repeat (first | refine js ?_ | refine jb ?_)
  refine jr ?_
  refine jS (ru_fieldAddr rfl rfl) ?_
  refine jS (ru_loadR rfl rfl rfl rfl) ?_
  refine jS (ru_call C2 ⟨rfl, trivial⟩) ?_
  refine jS (ru_fieldAddr rfl rfl) ?_
  refine jS (ru_loadR rfl rfl rfl rfl) ?_
  refine jS (ru_build (ps := [(_, _), (_, _)]) ⟨rfl, Part.c rfl, rfl, Part.c rfl, trivial⟩ rfl) ?_
  refine jO (ru_storeR rfl rfl rfl rfl rfl rfl) ?_
  refine RG.nil (by kernel_rfl) ?_
  repeat (first | refine js ?_ | refine jb ?_)
  refine WpD.ret ?_
  exact ret1 rfl (.cell rfl rfl CRow.ok rfl) (PLe.refl _)
theorem rsub (p q : RQ) (hp : p.ok) (hq : q.ok) : Fn Tryz.prog En 65 [qP p, qP q] (qC (p.v - q.v)) := by
  have C1 := rneg En q hq
  have C2 := rsum En p (RQ.of (-q.v)) hp (RQ.of_ok (szq_neg (RQ.sz hq)))
  rw [RQ.of_v, ← Rat.sub_eq_add_neg] at C2
  refine fn_of_body Tryz.func65 rfl Tryz.ntmps65 rfl ?_
  intro w0 h0
  repeat (first | refine js ?_ | refine jb ?_)
  refine jr ?_
  refine jT (ru_boxR rfl rfl rfl) ?_
  refine jT (ru_boxR rfl rfl rfl) ?_
  refine jT (ru_alloc rfl rfl rfl) ?_
  refine RG.nil (by kernel_rfl) ?_
  repeat (first | refine js ?_ | refine jb ?_)
  refine jr ?_
  refine jS (ru_loadR rfl rfl rfl rfl) ?_
  refine jS (ru_loadR rfl rfl rfl rfl) ?_
  refine jS (ru_call C1 ⟨rfl, trivial⟩) ?_
  refine jS (rc_buildR (ps := [(_, _), (_, _)]) ⟨rfl, Part.c rfl, rfl, Part.c rfl, trivial⟩ rfl rfl rfl) ?_
  refine jS (ru_call C2 ⟨rfl, trivial⟩) ?_
  refine jO (ru_storeR rfl rfl rfl rfl rfl rfl) ?_
  refine RG.nil (by kernel_rfl) ?_
  repeat (first | refine js ?_ | refine jb ?_)
  refine WpD.ret ?_
  exact ret1 rfl (.cell rfl rfl CRow.ok rfl) (PLe.refl _)
theorem rquo (p q : RQ) (hp : p.ok) (hq : q.ok) (h0 : q.v ≠ 0) : Fn Tryz.prog En 39 [qP p, qP q] (tupP [qC (p.v / q.v), ex (.bool true)]) := by
  have hs := RQ.sz hq
  have C1 := rcanonical En q hq
  generalize q.v = s at *
  have hn : s.num ≠ 0 := fun h => h0 (Rat.num_eq_zero.1 h)
  have hsg : sg3 s.num ≠ 0 := by unfold sg3; rw [if_neg hn]; split <;> decide
  have C2 := rsgn En s hs
  have C3 := rproduct En p ⟨decide ((s.den : Int) < 0), digs (s.den : Int).natAbs, decide (s.num < 0), digs s.num.natAbs⟩ hp ⟨lm_digs _, lm_digs _, hs.2, hs.1⟩
  have e : (⟨decide ((s.den : Int) < 0), digs (s.den : Int).natAbs, decide (s.num < 0), digs s.num.natAbs⟩ : RQ).v = s⁻¹ := by
    unfold RQ.v
    simp only
    rw [zv_C, zv_C, Rat.inv_def]
  rw [e, ← Rat.div_def] at C3
  refine fn_of_body Tryz.func39 rfl Tryz.ntmps39 rfl ?_
  intro w0 h0
  repeat (first | refine js ?_ | refine jb ?_)
  refine jr ?_
  refine jT (ru_boxR rfl rfl rfl) ?_
  refine jT (ru_boxR rfl rfl rfl) ?_
  refine jT (ru_alloc rfl rfl rfl) ?_
  refine ja rfl ?_
  refine RG.nil (by kernel_rfl) ?_
  repeat (first | refine js ?_ | refine jb ?_)
  refine jr ?_
  refine jS (ru_loadR rfl rfl rfl rfl) ?_
  refine jS (ru_call C1 ⟨rfl, trivial⟩) ?_
  refine jT (ru_alloc rfl rfl rfl) ?_
  refine jO (ru_storeR rfl rfl rfl rfl rfl rfl) ?_
  refine RG.nil (by kernel_rfl) ?_
  repeat (first | refine js ?_ | refine jb ?_)
  refine jr ?_
  refine jS (ru_loadR rfl rfl rfl rfl) ?_
  refine jS (ru_call C2 ⟨rfl, trivial⟩) ?_
  refine jS (rt_bin_to rfl rfl (fun w => run_eqi w _ _ _ _ _ _) (vbool (beqF (by first | assumption | omega)))) ?_
  refine RG.nil (by kernel_rfl) ?_
  repeat (first | refine js ?_ | refine jb ?_)
  refine WpD.condF rfl ?_
  repeat (first | refine js ?_ | refine jb ?_)
  refine WpD.skip ?_
  repeat (first | refine js ?_ | refine jb ?_)
  refine jr ?_
  refine jS (ru_loadR rfl rfl rfl rfl) ?_
  refine jS (ru_fieldAddr rfl rfl) ?_
  refine jS (ru_loadR rfl rfl rfl rfl) ?_
  refine jS (ru_fieldAddr rfl rfl) ?_
  refine jS (ru_loadR rfl rfl rfl rfl) ?_
  refine jS (ru_build (ps := [(_, _), (_, _)]) ⟨rfl, Part.c rfl, rfl, Part.c rfl, trivial⟩ rfl) ?_
  refine jS (rc_buildR (ps := [(_, _), (_, _)]) ⟨rfl, Part.c rfl, rfl, Part.c rfl, trivial⟩ rfl rfl rfl) ?_
  refine jS (ru_call C3 ⟨rfl, trivial⟩) ?_
  refine jO (ru_storeR rfl rfl rfl rfl rfl rfl) ?_
  refine ja rfl ?_
  refine RG.nil (by kernel_rfl) ?_
  repeat (first | refine js ?_ | refine jb ?_)
  refine WpD.ret ?_
  exact ret2 rfl (.cell rfl rfl CRow.ok rfl) (.tmp rfl) (PLe.refl _)
end
end Go.Proofs.YtpiflllcjgpkhaaGreatDoor

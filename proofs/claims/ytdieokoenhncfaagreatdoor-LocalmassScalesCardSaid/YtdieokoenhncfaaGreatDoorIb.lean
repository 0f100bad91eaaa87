/- Integers of the program: build, Small, Sign, Int64, Mul, DivMod. -/
import Derived.Test.YtdieokoenhncfaaGreatDoorZa
import Derived.Test.YtdieokoenhncfaaGreatDoorO
import Derived.Test.YtdieokoenhncfaaGreatDoorL
set_option maxRecDepth 3000
namespace Go.Proofs.YtdieokoenhncfaaGreatDoor
open Go.RowKit Limb
instance : CRow Tryz.prog 34 2 := ⟨⟨_, Tryz.underlying34, rfl, by kernel_rfl⟩⟩
instance : CField Tryz.prog 34 0 0 := ⟨⟨_, _, Tryz.underlying34, rfl, rfl, by kernel_rfl⟩⟩
instance : CField Tryz.prog 34 1 1 := ⟨⟨_, _, Tryz.underlying34, rfl, rfl, by kernel_rfl⟩⟩
instance : CFieldT Tryz.prog 34 0 0 4 := ⟨⟨_, _, Tryz.underlying34, rfl, rfl, rfl⟩⟩
instance : CFieldT Tryz.prog 34 1 1 32 := ⟨⟨_, _, Tryz.underlying34, rfl, rfl, rfl⟩⟩
theorem zero_int : ZeroOf Tryz.prog 34 [.bool false, .slice none 0 0] := ⟨by kernel_rfl, by simp [Value.oneCell']⟩
instance : CZero Tryz.prog 34 [.bool false, .slice none 0 0] := ⟨zero_int⟩
instance : CStruct Tryz.prog 34 [(0, 1), (1, 1)] [.bool false, .slice none 0 0] := ⟨⟨zero_int, _, Tryz.underlying34, fun _ => by kernel_rfl⟩⟩
instance cbody105 : CBody Tryz.prog 105 := ⟨⟨_, Tryz.func105, rfl, by rfl⟩⟩
instance cbody59 : CBody Tryz.prog 59 := ⟨⟨_, Tryz.func59, rfl, by rfl⟩⟩
instance cbody99 : CBody Tryz.prog 99 := ⟨⟨_, Tryz.func99, rfl, by rfl⟩⟩
instance cbody100 : CBody Tryz.prog 100 := ⟨⟨_, Tryz.func100, rfl, by rfl⟩⟩
instance cbody103 : CBody Tryz.prog 103 := ⟨⟨_, Tryz.func103, rfl, by rfl⟩⟩
section
variable (En : Ev)
theorem ibuild (s : Bool) (n : Nat) : Fn Tryz.prog En 105 [ex (.bool s), mag (digs n)] (zC (sgnZ s n)) := by
 have hb := digs_len0 n
 by_cases hn : n = 0
 ·subst hn
  have e : sgnZ s 0 = 0 := by unfold sgnZ; cases s <;> rfl
  rw [e]
  rw [decide_eq_true rfl] at hb
  refine fn_of_body Tryz.func105 rfl Tryz.ntmps105 rfl ?_
  intro w0 h0
  repeat (first | refine js ?_ | refine jb ?_)
  refine jr (jA jj jj jj (jn ?_))
  repeat (first | refine js ?_ | refine jb ?_)
  refine jr (jm jj (jE jj (jS (rt_bin_to jj jj (fun w => run_eqi w _ _ _ _ _ _) (vbool hb)) (jn ?_))))
  repeat (first | refine js ?_ | refine jb ?_)
  refine WpD.condT rfl ?_
  repeat (first | refine js ?_ | refine jb ?_)
  refine jr (jS (ru_build (ps := []) trivial jj) (jP jj jj jj jj (jn ?_)))
  repeat (first | refine js ?_ | refine jb ?_)
  refine WpD.ret ?_
  exact ret1 rfl (.cell rfl rfl CRow.ok rfl) zC_nil
 ·rw [decide_eq_false hn] at hb
  rw [zC_sgn hn]
  refine fn_of_body Tryz.func105 rfl Tryz.ntmps105 rfl ?_
  intro w0 h0
  repeat (first | refine js ?_ | refine jb ?_)
  refine jr (jA jj jj jj (jn ?_))
  repeat (first | refine js ?_ | refine jb ?_)
  refine jr (jm jj (jE jj (jS (rt_bin_to jj jj (fun w => run_eqi w _ _ _ _ _ _) (vbool hb)) (jn ?_))))
  repeat (first | refine js ?_ | refine jb ?_)
  refine WpD.condF rfl ?_
  repeat (first | refine js ?_ | refine jb ?_)
  refine WpD.skip ?_
  repeat (first | refine js ?_ | refine jb ?_)
  refine jr (jm jj (jm jj (jS (ru_build (ps := [(_, _), (_, _)]) ⟨jj, Part.c jj, jj, Part.c jj, trivial⟩ jj) (jP jj jj jj jj (jn ?_)))))
  repeat (first | refine js ?_ | refine jb ?_)
  refine WpD.ret ?_
  exact ret1 rfl (.cell rfl rfl CRow.ok rfl) (PLe.refl _)
theorem ismall (n : Int) (h1 : -9223372036854775808 ≤ n) (h2 : n ≤ 9223372036854775807) : Fn Tryz.prog En 59 [ex (.int .i64 n)] (zC n) := by
 by_cases hn : n < 0
 ·have b1 : decide (n < 0) = true := decide_eq_true hn
  have e1 : IntKind.u64.wrap n = n + 18446744073709551616 := by rw [IntKind.wrap_u64]; omega
  have e2 : IntKind.u64.wrap (-(n + 18446744073709551616)) = (n.natAbs : Int) := by rw [IntKind.wrap_u64]; omega
  have C1 := nfromWord En n.natAbs (by omega)
  have C2 := ibuild En true n.natAbs
  rw [show sgnZ true n.natAbs = n by unfold sgnZ; simp; omega] at C2
  refine fn_of_body Tryz.func59 rfl Tryz.ntmps59 rfl ?_
  intro w0 h0
  repeat (first | refine js ?_ | refine jb ?_)
  refine jr (jA jj jj jj (jn ?_))
  repeat (first | refine js ?_ | refine jb ?_)
  refine jr (jm jj (jS (rt_bin_to jj jj (fun w => run_lti w _ _ _ _ _ _) (vbool b1)) (jn ?_)))
  repeat (first | refine js ?_ | refine jb ?_)
  refine WpD.condT rfl ?_
  repeat (first | refine js ?_ | refine jb ?_)
  refine jr (jm jj (jS (bCv jj e1) (jS (rt_un_to jj (fun w => run_negi w _ _) (vint e2)) (jS (ru_call C1 ⟨jj, trivial⟩) (jS (ru_call C2 ⟨jj, jj, trivial⟩) (jP jj jj jj jj (jn ?_)))))))
  repeat (first | refine js ?_ | refine jb ?_)
  refine WpD.ret ?_
  exact ret1 rfl (.cell rfl rfl CRow.ok rfl) (PLe.refl _)
 ·have b1 : decide (n < 0) = false := decide_eq_false hn
  have e1 : IntKind.u64.wrap n = (n.natAbs : Int) := by rw [IntKind.wrap_u64]; omega
  have C1 := nfromWord En n.natAbs (by omega)
  have C2 := ibuild En false n.natAbs
  rw [show sgnZ false n.natAbs = n by unfold sgnZ; simp; omega] at C2
  refine fn_of_body Tryz.func59 rfl Tryz.ntmps59 rfl ?_
  intro w0 h0
  repeat (first | refine js ?_ | refine jb ?_)
  refine jr (jA jj jj jj (jn ?_))
  repeat (first | refine js ?_ | refine jb ?_)
  refine jr (jm jj (jS (rt_bin_to jj jj (fun w => run_lti w _ _ _ _ _ _) (vbool b1)) (jn ?_)))
  repeat (first | refine js ?_ | refine jb ?_)
  refine WpD.condF rfl ?_
  repeat (first | refine js ?_ | refine jb ?_)
  refine WpD.skip ?_
  repeat (first | refine js ?_ | refine jb ?_)
  refine jr (jm jj (jS (bCv jj e1) (jS (ru_call C1 ⟨jj, trivial⟩) (jS (ru_call C2 ⟨jj, jj, trivial⟩) (jP jj jj jj jj (jn ?_))))))
  repeat (first | refine js ?_ | refine jb ?_)
  refine WpD.ret ?_
  exact ret1 rfl (.cell rfl rfl CRow.ok rfl) (PLe.refl _)
theorem isign (s : Bool) (l : List Nat) (hl : Lm l) (hlen : l.length ≤ 1099511627776) : Fn Tryz.prog En 99 [zR s l] (ex (.int .i64 (sg3 (zv s l)))) := by
 have C1 := ntrim En l hl hlen
 unfold zv
 generalize val l = n at *
 have hb := digs_len0 n
 by_cases hn : n = 0
 ·subst hn
  rw [decide_eq_true rfl] at hb
  rw [show sg3 (sgnZ s 0) = 0 by cases s <;> rfl]
  refine fn_of_body Tryz.func99 rfl Tryz.ntmps99 rfl ?_
  intro w0 h0
  repeat (first | refine js ?_ | refine jb ?_)
  refine jr (jB jj jj jj (ja jj (jn ?_)))
  repeat (first | refine js ?_ | refine jb ?_)
  refine jr (jF jj jj (jl jj jj jj (jS (ru_call C1 ⟨jj, trivial⟩) (jE jj (jS (rt_bin_to jj jj (fun w => run_eqi w _ _ _ _ _ _) (vbool hb)) (ja jj (jn ?_)))))))
  repeat (first | refine js ?_ | refine jb ?_)
  refine WpD.condT rfl ?_
  repeat (first | refine js ?_ | refine jb ?_)
  refine jr (ja jj (jn ?_))
  repeat (first | refine js ?_ | refine jb ?_)
  refine WpD.ret ?_
  exact ret1 rfl (.tmp rfl) (PLe.refl _)
 ·rw [decide_eq_false hn] at hb
  cases s with
  | true =>
   rw [show sg3 (sgnZ true n) = -1 by unfold sg3 sgnZ; simp; omega]
   refine fn_of_body Tryz.func99 rfl Tryz.ntmps99 rfl ?_
   intro w0 h0
   repeat (first | refine js ?_ | refine jb ?_)
   refine jr (jB jj jj jj (ja jj (jn ?_)))
   repeat (first | refine js ?_ | refine jb ?_)
   refine jr (jF jj jj (jl jj jj jj (jS (ru_call C1 ⟨jj, trivial⟩) (jE jj (jS (rt_bin_to jj jj (fun w => run_eqi w _ _ _ _ _ _) (vbool hb)) (ja jj (jn ?_)))))))
   repeat (first | refine js ?_ | refine jb ?_)
   refine WpD.condF rfl ?_
   repeat (first | refine js ?_ | refine jb ?_)
   refine jr (jF jj jj (jl jj jj jj (ja jj (jn ?_))))
   repeat (first | refine js ?_ | refine jb ?_)
   refine WpD.condT rfl ?_
   repeat (first | refine js ?_ | refine jb ?_)
   refine jr (ja jj (jn ?_))
   repeat (first | refine js ?_ | refine jb ?_)
   refine WpD.ret ?_
   exact ret1 rfl (.tmp rfl) (PLe.refl _)
  | false =>
   rw [show sg3 (sgnZ false n) = 1 by unfold sg3 sgnZ; simp; omega]
   refine fn_of_body Tryz.func99 rfl Tryz.ntmps99 rfl ?_
   intro w0 h0
   repeat (first | refine js ?_ | refine jb ?_)
   refine jr (jB jj jj jj (ja jj (jn ?_)))
   repeat (first | refine js ?_ | refine jb ?_)
   refine jr (jF jj jj (jl jj jj jj (jS (ru_call C1 ⟨jj, trivial⟩) (jE jj (jS (rt_bin_to jj jj (fun w => run_eqi w _ _ _ _ _ _) (vbool hb)) (ja jj (jn ?_)))))))
   repeat (first | refine js ?_ | refine jb ?_)
   refine WpD.condF rfl ?_
   repeat (first | refine js ?_ | refine jb ?_)
   refine jr (jF jj jj (jl jj jj jj (ja jj (jn ?_))))
   repeat (first | refine js ?_ | refine jb ?_)
   refine WpD.condF rfl ?_
   repeat (first | refine js ?_ | refine jb ?_)
   refine WpD.skip ?_
   repeat (first | refine js ?_ | refine jb ?_)
   refine jr (ja jj (jn ?_))
   repeat (first | refine js ?_ | refine jb ?_)
   refine WpD.ret ?_
   exact ret1 rfl (.tmp rfl) (PLe.refl _)
theorem imul (s : Bool) (l : List Nat) (s' : Bool) (l' : List Nat) (hl : Lm l) (hl' : Lm l') (hlen : l.length ≤ 274877906944) (hlen' : l'.length ≤ 274877906944) :
  Fn Tryz.prog En 100 [zR s l, zR s' l'] (zC (zv s l * zv s' l')) := by
 have C1 := ntrim En l hl (by omega)
 have C2 := ntrim En l' hl' (by omega)
 have D1 := digs_lenle hlen hl
 have D2 := digs_lenle hlen' hl'
 unfold zv
 rw [sgnZ_mul]
 generalize val l = x at *
 generalize val l' = y at *
 have C3 := nmul En (digs x) (digs y) D1 D2 (lm_digs _) (lm_digs _)
 rw [val_digs, val_digs] at C3
 have C4 := ibuild En (s != s') (x * y)
 refine fn_of_body Tryz.func100 rfl Tryz.ntmps100 rfl ?_
 intro w0 h0
 repeat (first | refine js ?_ | refine jb ?_)
 refine jr (jB jj jj jj (jB jj jj jj (jA jj jj jj (jn ?_))))
 repeat (first | refine js ?_ | refine jb ?_)
 refine jr (jF jj jj (jl jj jj jj (jF jj jj (jl jj jj jj (jS (rt_bin jj jj (fun w => run_neb w CBool.ok _ _ _ _)) (jF jj jj (jl jj jj jj (jS (ru_call C1 ⟨jj, trivial⟩) (jF jj jj (jl jj jj jj (jS (ru_call C2 ⟨jj, trivial⟩) (jS (ru_call C3 ⟨jj, jj, trivial⟩) (jS (ru_call C4 ⟨jj, jj, trivial⟩) (jP jj jj jj jj (jn ?_)))))))))))))))
 repeat (first | refine js ?_ | refine jb ?_)
 refine WpD.ret ?_
 exact ret1 rfl (.cell rfl rfl CRow.ok rfl) (PLe.refl _)
set_option maxHeartbeats 1000000 in
theorem idivmod (s : Bool) (l : List Nat) (s' : Bool) (l' : List Nat) (hl : Lm l) (hl' : Lm l') (hlen : l.length ≤ 274877906944) (hlen' : l'.length ≤ 274877906944) (hy : zv s' l' ≠ 0) :
  Fn Tryz.prog En 103 [zR s l, zR s' l'] (tupP [zC (zv s l / zv s' l'), zC (zv s l % zv s' l'), ex (.bool true)]) := by
 have C1 := ntrim En l' hl' (by omega)
 have C2 := ntrim En l hl (by omega)
 have D1 := digs_lenle hlen hl
 have D2 := digs_lenle hlen' hl'
 unfold zv at hy ⊢
 generalize val l = x at *
 generalize val l' = y at *
 have hy0 : y ≠ 0 := by rintro rfl; apply hy; cases s' <;> rfl
 have C3 := ndiv En x y (by omega) hy0
 unfold DivP at C3
 have b1 := digs_len0 y
 rw [decide_eq_false hy0] at b1
 have Q1 : (digs (x / y)).length ≤ 274877906944 := Nat.le_trans (digs_mono (Nat.div_le_self _ _)) D1
 have hlt := Nat.mod_lt x (Nat.pos_of_ne_zero hy0)
 have C5 := ibuild En false (x % y)
 have e5 : sgnZ false (x % y) = ((x % y : Nat) : Int) := rfl
 rw [e5] at C5
 cases s with
 | false =>
  have C4 := ibuild En s' (x / y)
  obtain ⟨e1, e2⟩ := sdm_up (s := false) (s' := s') hy0 (.inl rfl)
  rw [e1, e2, Bool.false_bne]
  refine fn_of_body Tryz.func103 rfl Tryz.ntmps103 rfl ?_
  intro w0 h0
  repeat (first | refine js ?_ | refine jb ?_)
  refine jr (jB jj jj jj (jB jj jj jj (jA jj jj jj (jA jj jj jj (ja jj (jn ?_))))))
  repeat (first | refine js ?_ | refine jb ?_)
  refine jr (jF jj jj (jl jj jj jj (jS (ru_call C1 ⟨jj, trivial⟩) (ja jj (jn ?_)))))
  repeat (first | refine js ?_ | refine jb ?_)
  refine jr (jm jj (jE jj (jS (rt_bin_to jj jj (fun w => run_eqi w _ _ _ _ _ _) (vbool b1)) (jn ?_))))
  repeat (first | refine js ?_ | refine jb ?_)
  refine WpD.condF rfl ?_
  repeat (first | refine js ?_ | refine jb ?_)
  refine WpD.skip ?_
  repeat (first | refine js ?_ | refine jb ?_)
  refine jr (jF jj jj (jl jj jj jj (jS (ru_call C2 ⟨jj, trivial⟩) (jm jj (jS (ru_call C3 ⟨jj, jj, trivial⟩) (jm jj (jx' jj jj (jx' jj jj (ja jj (ja jj (jn ?_)))))))))))
  repeat (first | refine js ?_ | refine jb ?_)
  refine jr (jF jj jj (jl jj jj jj (ja jj (jn ?_))))
  repeat (first | refine js ?_ | refine jb ?_)
  refine jr (jF jj jj (jl jj jj jj (jm jj ?_)))
  first | refine jg (rt_move jj) ?_ | refine jk ?_
  first | refine jg (ru_len jj CSlice.ok) ?_ | refine jk ?_
  first | refine jg (rt_bin jj jj (fun w => run_gti w _ _ _ _ _ _)) ?_ | refine jk ?_
  first | refine jq jj jj ?_ | refine jQ jj jj ?_
  refine ja jj (jn ?_)
  repeat (first | refine js ?_ | refine jb ?_)
  refine WpD.condF rfl ?_
  repeat (first | refine js ?_ | refine jb ?_)
  refine WpD.skip ?_
  repeat (first | refine js ?_ | refine jb ?_)
  refine jr (jF jj jj (jl jj jj jj (ja jj (jn ?_))))
  repeat (first | refine js ?_ | refine jb ?_)
  refine WpD.condF rfl ?_
  repeat (first | refine js ?_ | refine jb ?_)
  refine WpD.skip ?_
  repeat (first | refine js ?_ | refine jb ?_)
  refine WpD.exit ?_
  repeat (first | refine js ?_ | refine jb ?_)
  refine jr (jm jj (jm jj (jS (ru_call C4 ⟨jj, jj, trivial⟩) (jm jj (jS (ru_call C5 ⟨jj, jj, trivial⟩) (jP jj jj jj jj (jP jj jj jj jj (ja jj (jn ?_)))))))))
  repeat (first | refine js ?_ | refine jb ?_)
  refine WpD.ret ?_
  exact ret3 rfl (.cell rfl rfl CRow.ok rfl) (.cell rfl rfl CRow.ok rfl) (.tmp rfl) (PLe.refl _)
 | true =>
  by_cases hr : x % y = 0
  ·have b2 : decide (((digs (x % y)).length : Int) > 0) = false := by rw [hr]; rfl
   have C4 := ibuild En (!s') (x / y)
   obtain ⟨e1, e2⟩ := sdm_up (s := true) (s' := s') hy0 (.inr hr)
   rw [e1, e2, Bool.true_bne]
   refine fn_of_body Tryz.func103 rfl Tryz.ntmps103 rfl ?_
   intro w0 h0
   repeat (first | refine js ?_ | refine jb ?_)
   refine jr (jB jj jj jj (jB jj jj jj (jA jj jj jj (jA jj jj jj (ja jj (jn ?_))))))
   repeat (first | refine js ?_ | refine jb ?_)
   refine jr (jF jj jj (jl jj jj jj (jS (ru_call C1 ⟨jj, trivial⟩) (ja jj (jn ?_)))))
   repeat (first | refine js ?_ | refine jb ?_)
   refine jr (jm jj (jE jj (jS (rt_bin_to jj jj (fun w => run_eqi w _ _ _ _ _ _) (vbool b1)) (jn ?_))))
   repeat (first | refine js ?_ | refine jb ?_)
   refine WpD.condF rfl ?_
   repeat (first | refine js ?_ | refine jb ?_)
   refine WpD.skip ?_
   repeat (first | refine js ?_ | refine jb ?_)
   refine jr (jF jj jj (jl jj jj jj (jS (ru_call C2 ⟨jj, trivial⟩) (jm jj (jS (ru_call C3 ⟨jj, jj, trivial⟩) (jm jj (jx' jj jj (jx' jj jj (ja jj (ja jj (jn ?_)))))))))))
   repeat (first | refine js ?_ | refine jb ?_)
   refine jr (jF jj jj (jl jj jj jj (ja jj (jn ?_))))
   repeat (first | refine js ?_ | refine jb ?_)
   refine jr (jF jj jj (jl jj jj jj (jm jj ?_)))
   first | refine jg (rt_move jj) ?_ | refine jk ?_
   first | refine jg (ru_len jj CSlice.ok) ?_ | refine jk ?_
   first | refine jg (rt_bin_to jj jj (fun w => run_gti w _ _ _ _ _ _) (vbool b2)) ?_ | refine jk ?_
   first | refine jq jj jj ?_ | refine jQ jj jj ?_
   refine ja jj (jn ?_)
   repeat (first | refine js ?_ | refine jb ?_)
   refine WpD.condF rfl ?_
   repeat (first | refine js ?_ | refine jb ?_)
   refine WpD.skip ?_
   repeat (first | refine js ?_ | refine jb ?_)
   refine jr (jF jj jj (jl jj jj jj (ja jj (jn ?_))))
   repeat (first | refine js ?_ | refine jb ?_)
   refine WpD.condT rfl ?_
   repeat (first | refine js ?_ | refine jb ?_)
   refine WpD.exit ?_
   repeat (first | refine js ?_ | refine jb ?_)
   refine jr (jm jj (jS (bNo jj) (ja jj (jn ?_))))
   repeat (first | refine js ?_ | refine jb ?_)
   refine WpD.exit ?_
   repeat (first | refine js ?_ | refine jb ?_)
   refine jr (jm jj (jm jj (jS (ru_call C4 ⟨jj, jj, trivial⟩) (jm jj (jS (ru_call C5 ⟨jj, jj, trivial⟩) (jP jj jj jj jj (jP jj jj jj jj (ja jj (jn ?_)))))))))
   repeat (first | refine js ?_ | refine jb ?_)
   refine WpD.ret ?_
   exact ret3 rfl (.cell rfl rfl CRow.ok rfl) (.cell rfl rfl CRow.ok rfl) (.tmp rfl) (PLe.refl _)
  ·have b2 : decide (((digs (x % y)).length : Int) > 0) = true := by rw [digs_step hr]; simp
   have hlm1 : Lm [1] := Lm.cons (by rw [B_def]; omega) Lm.nil
   have C6 := nadd En (digs (x / y)) [1] (by omega) (by simp) (lm_digs _) hlm1
   rw [val_digs, show val [1] = 1 by rfl] at C6
   have C7 := nsub En (digs y) (digs (x % y)) (by omega) (digs_mono (by omega)) (lm_digs _) (lm_digs _) (by rw [val_digs, val_digs]; omega)
   rw [val_digs, val_digs] at C7
   have C4 := ibuild En (!s') (x / y + 1)
   have C8 := ibuild En false (y - x % y)
   rw [show sgnZ false (y - x % y) = ((y - x % y : Nat) : Int) from rfl] at C8
   obtain ⟨e1, e2⟩ := sdm_down (s' := s') hy0 hr
   rw [e1, e2]
   refine fn_of_body Tryz.func103 rfl Tryz.ntmps103 rfl ?_
   intro w0 h0
   repeat (first | refine js ?_ | refine jb ?_)
   refine jr (jB jj jj jj (jB jj jj jj (jA jj jj jj (jA jj jj jj (ja jj (jn ?_))))))
   repeat (first | refine js ?_ | refine jb ?_)
   refine jr (jF jj jj (jl jj jj jj (jS (ru_call C1 ⟨jj, trivial⟩) (ja jj (jn ?_)))))
   repeat (first | refine js ?_ | refine jb ?_)
   refine jr (jm jj (jE jj (jS (rt_bin_to jj jj (fun w => run_eqi w _ _ _ _ _ _) (vbool b1)) (jn ?_))))
   repeat (first | refine js ?_ | refine jb ?_)
   refine WpD.condF rfl ?_
   repeat (first | refine js ?_ | refine jb ?_)
   refine WpD.skip ?_
   repeat (first | refine js ?_ | refine jb ?_)
   refine jr (jF jj jj (jl jj jj jj (jS (ru_call C2 ⟨jj, trivial⟩) (jm jj (jS (ru_call C3 ⟨jj, jj, trivial⟩) (jm jj (jx' jj jj (jx' jj jj (ja jj (ja jj (jn ?_)))))))))))
   repeat (first | refine js ?_ | refine jb ?_)
   refine jr (jF jj jj (jl jj jj jj (ja jj (jn ?_))))
   repeat (first | refine js ?_ | refine jb ?_)
   refine jr (jF jj jj (jl jj jj jj (jm jj ?_)))
   first | refine jg (rt_move jj) ?_ | refine jk ?_
   first | refine jg (ru_len jj CSlice.ok) ?_ | refine jk ?_
   first | refine jg (rt_bin_to jj jj (fun w => run_gti w _ _ _ _ _ _) (vbool b2)) ?_ | refine jk ?_
   first | refine jq jj jj ?_ | refine jQ jj jj ?_
   refine ja jj (jn ?_)
   repeat (first | refine js ?_ | refine jb ?_)
   refine WpD.condT rfl ?_
   repeat (first | refine js ?_ | refine jb ?_)
   refine WpD.exit ?_
   repeat (first | refine js ?_ | refine jb ?_)
   refine jr (jm jj (jS (rc_buildS (l := [1]) ⟨jj, jj, trivial⟩ jj jj jj hlm1) (jS (ru_call C6 ⟨jj, jj, trivial⟩) (ja jj (jn ?_)))))
   repeat (first | refine js ?_ | refine jb ?_)
   refine jr (jm jj (jm jj (jS (ru_call C7 ⟨jj, jj, trivial⟩) (ja jj (jn ?_)))))
   repeat (first | refine js ?_ | refine jb ?_)
   refine jr (jm jj (jS (bNo jj) (ja jj (jn ?_))))
   repeat (first | refine js ?_ | refine jb ?_)
   refine WpD.exit ?_
   repeat (first | refine js ?_ | refine jb ?_)
   refine jr (jm jj (jm jj (jS (ru_call C4 ⟨jj, jj, trivial⟩) (jm jj (jS (ru_call C8 ⟨jj, jj, trivial⟩) (jP jj jj jj jj (jP jj jj jj jj (ja jj (jn ?_)))))))))
   repeat (first | refine js ?_ | refine jb ?_)
   refine WpD.ret ?_
   exact ret3 rfl (.cell rfl rfl CRow.ok rfl) (.cell rfl rfl CRow.ok rfl) (.tmp rfl) (PLe.refl _)
end
end Go.Proofs.YtdieokoenhncfaaGreatDoor
/- The reference's divide, in full. -/
namespace Go.Proofs.YtdieokoenhncfaaGreatDoor
open Go.RowKit Limb
instance cbody150 : CBody Tryz.prog 150 := ⟨⟨_, Tryz.func150, rfl, by rfl⟩⟩
instance cbody123 : CBody Tryz.prog 123 := ⟨⟨_, Tryz.func123, rfl, by rfl⟩⟩
instance cbody147 : CBody Tryz.prog 147 := ⟨⟨_, Tryz.func147, rfl, by rfl⟩⟩
instance cbody116 : CBody Tryz.prog 116 := ⟨⟨_, Tryz.func116, rfl, by rfl⟩⟩
instance cbody120 : CBody Tryz.prog 120 := ⟨⟨_, Tryz.func120, rfl, by rfl⟩⟩
instance cbody119 : CBody Tryz.prog 119 := ⟨⟨_, Tryz.func119, rfl, by rfl⟩⟩
instance cbody117 : CBody Tryz.prog 117 := ⟨⟨_, Tryz.func117, rfl, by rfl⟩⟩
instance cbody176 : CBody Tryz.prog 176 := ⟨⟨_, Tryz.func176, rfl, by rfl⟩⟩
instance cbody175 : CBody Tryz.prog 175 := ⟨⟨_, Tryz.func175, rfl, by rfl⟩⟩
instance cbody174 : CBody Tryz.prog 174 := ⟨⟨_, Tryz.func174, rfl, by rfl⟩⟩
instance cbody173 : CBody Tryz.prog 173 := ⟨⟨_, Tryz.func173, rfl, by rfl⟩⟩
instance cbody168 : CBody Tryz.prog 168 := ⟨⟨_, Tryz.func168, rfl, by rfl⟩⟩
instance cbody169 : CBody Tryz.prog 169 := ⟨⟨_, Tryz.func169, rfl, by rfl⟩⟩
instance cbody65 : CBody Tryz.prog 65 := ⟨⟨_, Tryz.func65, rfl, by rfl⟩⟩
instance cbody167 : CBody Tryz.prog 167 := ⟨⟨_, Tryz.func167, rfl, by rfl⟩⟩
instance cbody153 : CBody Tryz.prog 153 := ⟨⟨_, Tryz.func153, rfl, by rfl⟩⟩
instance cbody152 : CBody Tryz.prog 152 := ⟨⟨_, Tryz.func152, rfl, by rfl⟩⟩
instance cbody122 : CBody Tryz.prog 122 := ⟨⟨_, Tryz.func122, rfl, by rfl⟩⟩
instance cbody146 : CBody Tryz.prog 146 := ⟨⟨_, Tryz.func146, rfl, by rfl⟩⟩
section
variable (En : Ev)
end
end Go.Proofs.YtdieokoenhncfaaGreatDoor
/- The reference's DivMod, Rem, Gcd, by the divide in full. -/
namespace Go.Proofs.YtdieokoenhncfaaGreatDoor
open Go.RowKit Limb
instance cbody151 : CBody Tryz.prog 151 := ⟨⟨_, Tryz.func151, rfl, by rfl⟩⟩
section
variable (En : Ev)
end
end Go.Proofs.YtdieokoenhncfaaGreatDoor
/- Integers of the program: Normalize, Cmp, Pow. -/
namespace Go.Proofs.YtdieokoenhncfaaGreatDoor
open Go.RowKit Limb
instance cbody104 : CBody Tryz.prog 104 := ⟨⟨_, Tryz.func104, rfl, by rfl⟩⟩
instance cbody89 : CBody Tryz.prog 89 := ⟨⟨_, Tryz.func89, rfl, by rfl⟩⟩
instance cbody56 : CBody Tryz.prog 56 := ⟨⟨_, Tryz.func56, rfl, by rfl⟩⟩
def cmpZ (X Y : Int) : Int := if X < Y then -1 else if Y < X then 1 else 0
theorem cmpZ_bd (X Y : Int) : -1 ≤ cmpZ X Y ∧ cmpZ X Y ≤ 1 := by unfold cmpZ; split <;> (try split) <;> omega
theorem sg3_lt {X Y : Int} (h : sg3 X < sg3 Y) : X < Y := by
 unfold sg3 at h
 split at h <;> split at h <;> (try split at h) <;> (try split at h) <;> omega
theorem cmp_sg {s s' : Bool} {x y : Nat} (h : sg3 (sgnZ s x) = sg3 (sgnZ s' y)) : sg3 (sgnZ s x) * (if x < y then -1 else if y < x then 1 else 0) = cmpZ (sgnZ s x) (sgnZ s' y) := by
 have hX : sgnZ s x = x ∨ sgnZ s x = -(x : Int) := by unfold sgnZ; split <;> simp
 have hY : sgnZ s' y = y ∨ sgnZ s' y = -(y : Int) := by unfold sgnZ; split <;> simp
 generalize sgnZ s x = X at *
 generalize sgnZ s' y = Y at *
 unfold cmpZ
 rcases Int.lt_trichotomy X 0 with hx | hx | hx
 ·have e : sg3 X = -1 := by unfold sg3; rw [if_neg (by omega), if_pos hx]
  have hy : Y < 0 := by
   rw [e] at h; unfold sg3 at h
   split at h
   ·omega
   ·split at h <;> omega
  rw [e]
  repeat' split
  all_goals omega
 ·have e : sg3 X = 0 := by unfold sg3; rw [if_pos hx]
  have hy : Y = 0 := by
   rw [e] at h; unfold sg3 at h
   split at h
   ·assumption
   ·split at h <;> omega
  rw [e, hx, hy, Int.zero_mul]; rfl
 ·have e : sg3 X = 1 := by unfold sg3; rw [if_neg (by omega), if_neg (by omega)]
  have hy : 0 < Y := by
   rw [e] at h; unfold sg3 at h
   split at h
   ·omega
   ·split at h <;> omega
  rw [e]
  repeat' split
  all_goals omega
section
variable (En : Ev)
theorem inormalize (s : Bool) (l : List Nat) (hl : Lm l) (hlen : l.length ≤ 274877906944) : Fn Tryz.prog En 104 [zR s l] (zC (zv s l)) := by
 have C1 := ntrim En l hl (by omega)
 have D1 := digs_lenle hlen hl
 unfold zv
 generalize val l = x at *
 have C2 := nclone En (digs x) (lm_digs _) (by omega)
 have C3 := ibuild En s x
 refine fn_of_body Tryz.func104 rfl Tryz.ntmps104 rfl ?_
 intro w0 h0
 repeat (first | refine js ?_ | refine jb ?_)
 refine jr (jB jj jj jj (jA jj jj jj (jn ?_)))
 repeat (first | refine js ?_ | refine jb ?_)
 refine jr (jF jj jj (jl jj jj jj (jF jj jj (jl jj jj jj (jS (ru_call C1 ⟨jj, trivial⟩) (jS (ru_call C2 ⟨jj, trivial⟩) (jS (ru_call C3 ⟨jj, jj, trivial⟩) (jP jj jj jj jj (jn ?_)))))))))
 repeat (first | refine js ?_ | refine jb ?_)
 refine WpD.ret ?_
 exact ret1 rfl (.cell rfl rfl CRow.ok rfl) (PLe.refl _)
set_option maxHeartbeats 1000000 in
theorem icmp (s : Bool) (l : List Nat) (s' : Bool) (l' : List Nat) (hl : Lm l) (hl' : Lm l') (hlen : l.length ≤ 274877906944) (hlen' : l'.length ≤ 274877906944) :
  Fn Tryz.prog En 89 [zR s l, zR s' l'] (ex (.int .i64 (cmpZ (zv s l) (zv s' l')))) := by
 have C1 := isign En s l hl (by omega)
 have C2 := isign En s' l' hl' (by omega)
 have C3 := ntrim En l hl (by omega)
 have C4 := ntrim En l' hl' (by omega)
 have D1 := digs_lenle hlen hl
 unfold zv at *
 generalize val l = x at *
 generalize val l' = y at *
 have C5 := ncompare En (digs x) (digs y) (by omega) (lm_digs _) (lm_digs _)
 rw [cmpL_digs] at C5
 by_cases h1 : sg3 (sgnZ s x) < sg3 (sgnZ s' y)
 ·have b1 : decide (sg3 (sgnZ s x) < sg3 (sgnZ s' y)) = true := decide_eq_true h1
  rw [show cmpZ (sgnZ s x) (sgnZ s' y) = -1 by unfold cmpZ; rw [if_pos (sg3_lt h1)]]
  refine fn_of_body Tryz.func89 rfl Tryz.ntmps89 rfl ?_
  intro w0 h0
  repeat (first | refine js ?_ | refine jb ?_)
  refine jr (jB jj jj jj (jB jj jj jj (ja jj (jn ?_))))
  repeat (first | refine js ?_ | refine jb ?_)
  refine jr (jL jj jj jj (jS (ru_call C1 ⟨jj, trivial⟩) (jL jj jj jj (jS (ru_call C2 ⟨jj, trivial⟩) (ja jj (ja jj (jn ?_)))))))
  repeat (first | refine js ?_ | refine jb ?_)
  refine jr (jm jj (jm jj (jS (rt_bin_to jj jj (fun w => run_lti w _ _ _ _ _ _) (vbool b1)) (ja jj (jn ?_)))))
  repeat (first | refine js ?_ | refine jb ?_)
  refine WpD.condT rfl ?_
  repeat (first | refine js ?_ | refine jb ?_)
  refine jr (ja jj (jn ?_))
  repeat (first | refine js ?_ | refine jb ?_)
  refine WpD.ret ?_
  exact ret1 rfl (.tmp rfl) (PLe.refl _)
 ·have b1 : decide (sg3 (sgnZ s x) < sg3 (sgnZ s' y)) = false := decide_eq_false h1
  by_cases h2 : sg3 (sgnZ s x) > sg3 (sgnZ s' y)
  ·have b2 : decide (sg3 (sgnZ s x) > sg3 (sgnZ s' y)) = true := decide_eq_true h2
   have h3 := sg3_lt h2
   rw [show cmpZ (sgnZ s x) (sgnZ s' y) = 1 by unfold cmpZ; rw [if_neg (by omega), if_pos h3]]
   refine fn_of_body Tryz.func89 rfl Tryz.ntmps89 rfl ?_
   intro w0 h0
   repeat (first | refine js ?_ | refine jb ?_)
   refine jr (jB jj jj jj (jB jj jj jj (ja jj (jn ?_))))
   repeat (first | refine js ?_ | refine jb ?_)
   refine jr (jL jj jj jj (jS (ru_call C1 ⟨jj, trivial⟩) (jL jj jj jj (jS (ru_call C2 ⟨jj, trivial⟩) (ja jj (ja jj (jn ?_)))))))
   repeat (first | refine js ?_ | refine jb ?_)
   refine jr (jm jj (jm jj (jS (rt_bin_to jj jj (fun w => run_lti w _ _ _ _ _ _) (vbool b1)) (ja jj (jn ?_)))))
   repeat (first | refine js ?_ | refine jb ?_)
   refine WpD.condF rfl ?_
   repeat (first | refine js ?_ | refine jb ?_)
   refine jr (jm jj (jm jj (jS (rt_bin_to jj jj (fun w => run_gti w _ _ _ _ _ _) (vbool b2)) (ja jj (jn ?_)))))
   repeat (first | refine js ?_ | refine jb ?_)
   refine WpD.condT rfl ?_
   repeat (first | refine js ?_ | refine jb ?_)
   refine jr (ja jj (jn ?_))
   repeat (first | refine js ?_ | refine jb ?_)
   refine WpD.ret ?_
   exact ret1 rfl (.tmp rfl) (PLe.refl _)
  ·have b2 : decide (sg3 (sgnZ s x) > sg3 (sgnZ s' y)) = false := decide_eq_false h2
   have e8 : IntKind.i64.wrap (sg3 (sgnZ s x) * (if x < y then -1 else if y < x then 1 else 0)) = cmpZ (sgnZ s x) (sgnZ s' y) := by
    rw [cmp_sg (s' := s') (y := y) (by omega)]
    have := cmpZ_bd (sgnZ s x) (sgnZ s' y)
    exact w64 (by omega) (by omega)
   refine fn_of_body Tryz.func89 rfl Tryz.ntmps89 rfl ?_
   intro w0 h0
   repeat (first | refine js ?_ | refine jb ?_)
   refine jr (jB jj jj jj (jB jj jj jj (ja jj (jn ?_))))
   repeat (first | refine js ?_ | refine jb ?_)
   refine jr (jL jj jj jj (jS (ru_call C1 ⟨jj, trivial⟩) (jL jj jj jj (jS (ru_call C2 ⟨jj, trivial⟩) (ja jj (ja jj (jn ?_)))))))
   repeat (first | refine js ?_ | refine jb ?_)
   refine jr (jm jj (jm jj (jS (rt_bin_to jj jj (fun w => run_lti w _ _ _ _ _ _) (vbool b1)) (ja jj (jn ?_)))))
   repeat (first | refine js ?_ | refine jb ?_)
   refine WpD.condF rfl ?_
   repeat (first | refine js ?_ | refine jb ?_)
   refine jr (jm jj (jm jj (jS (rt_bin_to jj jj (fun w => run_gti w _ _ _ _ _ _) (vbool b2)) (ja jj (jn ?_)))))
   repeat (first | refine js ?_ | refine jb ?_)
   refine WpD.condF rfl ?_
   repeat (first | refine js ?_ | refine jb ?_)
   refine WpD.skip ?_
   repeat (first | refine js ?_ | refine jb ?_)
   refine jr (jm jj (jF jj jj (jl jj jj jj (jS (ru_call C3 ⟨jj, trivial⟩) (jF jj jj (jl jj jj jj (jS (ru_call C4 ⟨jj, trivial⟩) (jS (ru_call C5 ⟨jj, jj, trivial⟩) (jS (bMu jj jj e8) (ja jj (jn ?_)))))))))))
   repeat (first | refine js ?_ | refine jb ?_)
   refine WpD.ret ?_
   exact ret1 rfl (.tmp rfl) (PLe.refl _)
end
def bitv : Nat → Nat
 | 0 => 0
 | j + 1 => 2 ^ j
theorem and_bit0 : ∀ n : Fin 65, ∀ i : Fin 7, (IntKind.i64.wrap ((BitVec.ofInt IntKind.i64.bits ((n.1 : Nat) : Int) &&& BitVec.ofInt IntKind.i64.bits ((bitv (i.1 + 1) : Nat) : Int)).toNat) != 0) = decide (n.1 / 2 ^ i.1 % 2 = 1) := by decide +kernel
theorem and_bit {n i : Nat} (hn : n ≤ 64) (hi : i < 7) : (IntKind.i64.wrap ((BitVec.ofInt IntKind.i64.bits ((n : Nat) : Int) &&& BitVec.ofInt IntKind.i64.bits ((bitv (i + 1) : Nat) : Int)).toNat) != 0) = decide (n / 2 ^ i % 2 = 1) := and_bit0 ⟨n, by omega⟩ ⟨i, hi⟩
theorem half_bit0 : ∀ i : Fin 7, IntKind.i64.wrap (((bitv (i.1 + 1) : Nat) : Int).tdiv 2) = ((bitv i.1 : Nat) : Int) := by decide +kernel
theorem half_bit {i : Nat} (hi : i < 7) : IntKind.i64.wrap (((bitv (i + 1) : Nat) : Int).tdiv 2) = ((bitv i : Nat) : Int) := half_bit0 ⟨i, hi⟩
theorem pow_len {x k m : Nat} (h : x < B ^ k) (hk : k ≤ 1073741824) (hm : m ≤ 64) : (digs (x ^ m)).length ≤ 274877906944 := by
 refine Nat.le_trans (digs_length_le (k := k * m + 1) ?_) ?_
 ·refine Nat.lt_of_le_of_lt (Nat.pow_le_pow_left (Nat.le_of_lt h) m) ?_
  rw [← Nat.pow_mul]
  exact Nat.pow_lt_pow_right (by rw [B_def]; omega) (by omega)
 ·have : k * m ≤ 1073741824 * 64 := Nat.mul_le_mul hk hm
  omega
section
variable (En : Ev)
set_option maxHeartbeats 1000000 in
theorem ipow (s : Bool) (l : List Nat) (n : Nat) (hl : Lm l) (hlen : l.length ≤ 1073741824) (hn : n ≤ 64) :
  Fn Tryz.prog En 56 [zR s l, ex (.int .i64 (n : Int))] (tupP [zC (zv s l ^ n), ex (.bool true)]) := by
 have C1 := ismall En 1 (by omega) (by omega)
 have b1 : decide ((n : Int) < 0) = false := decide_eq_false (by omega)
 have b2 : decide ((n : Int) > 64) = false := decide_eq_false (by omega)
 have hlt := val_lt hl
 have sp : ∀ m, m ≤ 64 → (digs (zv s l ^ m).natAbs).length ≤ 274877906944 := fun m hm => by
  rw [Int.natAbs_pow, zv_abs]; exact pow_len hlt hlen hm
 generalize hX : zv s l = X at *
 refine fn_of_body Tryz.func56 rfl Tryz.ntmps56 rfl ?_
 intro w0 h0
 repeat (first | refine js ?_ | refine jb ?_)
 refine jr (jB jj jj jj (jA jj jj jj (ja jj (jn ?_))))
 repeat (first | refine js ?_ | refine jb ?_)
 refine jr (jm jj (jS (rt_bin_to jj jj (fun w => run_lti w _ _ _ _ _ _) (vbool b1)) (jm jj ?_)))
 first | refine jg (rt_move jj) ?_ | refine jk ?_
 first | refine jg (rt_bin_to jj jj (fun w => run_gti w _ _ _ _ _ _) (vbool b2)) ?_ | refine jk ?_
 first | refine jq jj jj ?_ | refine jQ jj jj ?_
 refine jn ?_
 repeat (first | refine js ?_ | refine jb ?_)
 refine WpD.condF rfl ?_
 repeat (first | refine js ?_ | refine jb ?_)
 refine WpD.skip ?_
 repeat (first | refine js ?_ | refine jb ?_)
 refine jr (jS (ru_call C1 ⟨jj, trivial⟩) (jA jj jj jj (jP jj jj jj jj (jn ?_))))
 repeat (first | refine js ?_ | refine jb ?_)
 refine jr (ja jj (jn ?_))
 repeat (first | refine js ?_ | refine jb ?_)
 refine WpD.loop (α := {j : Nat // j ≤ 7}) (fun j => ⟨[(1, .one (ex (.int .i64 (n : Int)))), (2, .ptr 2 0), (4, .ptr 4 0), (6, .ptr 6 0), (7, .one (ex (.int .i64 ((bitv j.1 : Nat) : Int))))], [(2, [ex (.bool s), mag l]), (4, [ex (.bool false), ex (.slice none 0 0)]), (6, zCells (X ^ (n / 2 ^ j.1)))]⟩) (fun j => j.1) ⟨7, Nat.le_refl _⟩ ?_ ?_
 ·have e : n / 2 ^ 7 = 0 := Nat.div_eq_of_lt (by omega)
  dsimp only
  rw [e, Int.pow_zero]
  refine Sub.mk ?_ ?_ <;> repeat (first | exact trivial | refine jv jj ?_ | refine jy jj ?_ | refine jw jj (js0 jj) ?_ | refine ⟨⟨_, jj, PLe.refl _⟩, trivial, ?_⟩)
 ·rintro ⟨j, hj⟩
  dsimp only
  cases j with
  | zero =>
   have b3 : decide (((bitv 0 : Nat) : Int) > 0) = false := by decide
   rw [Nat.pow_zero, Nat.div_one]
   repeat (first | refine js ?_ | refine jb ?_)
   refine jr (jm jj (jS (rt_bin_to jj jj (fun w => run_gti w _ _ _ _ _ _) (vbool b3)) (jn ?_)))
   repeat (first | refine js ?_ | refine jb ?_)
   refine WpD.condF rfl ?_
   repeat (first | refine js ?_ | refine jb ?_)
   refine WpD.exit ?_
   repeat (first | refine js ?_ | refine jb ?_)
   refine jr (jL jj jj jj (jP jj jj jj jj (ja jj (jn ?_))))
   repeat (first | refine js ?_ | refine jb ?_)
   refine WpD.ret ?_
   exact ret2 rfl (.cell rfl rfl CRow.ok rfl) (.tmp rfl) (PLe.refl _)
  | succ j =>
   have b3 : decide (((bitv (j + 1) : Nat) : Int) > 0) = true := decide_eq_true (by show (((2 ^ j : Nat)) : Int) > 0; have := Nat.two_pow_pos j; omega)
   have e0 : n / 2 ^ (j + 1) = n / 2 ^ j / 2 := by rw [Nat.pow_succ, Nat.div_div_eq_div_mul]
   have hN : n / 2 ^ j ≤ 64 := Nat.le_trans (Nat.div_le_self _ _) hn
   have ab := and_bit hn (i := j) (by omega)
   have hb := half_bit (i := j) (by omega)
   rw [e0]
   generalize hNe : n / 2 ^ j = N at *
   have C2 := imul En (decide (X ^ (N / 2) < 0)) (digs (X ^ (N / 2)).natAbs) (decide (X ^ (N / 2) < 0)) (digs (X ^ (N / 2)).natAbs) (lm_digs _) (lm_digs _) (sp _ (by omega)) (sp _ (by omega))
   rw [zv_C, ← Int.pow_add] at C2
   have C3 := imul En (decide (X ^ (N / 2 + N / 2) < 0)) (digs (X ^ (N / 2 + N / 2)).natAbs) s l (lm_digs _) hl (sp _ (by omega)) (by omega)
   rw [zv_C, hX, ← Int.pow_succ] at C3
   by_cases hbit : N % 2 = 1
   ·rw [decide_eq_true hbit] at ab
    have eN : (N / 2 + N / 2).succ = N := by omega
    rw [eN] at C3
    repeat (first | refine js ?_ | refine jb ?_)
    refine jr (jm jj (jS (rt_bin_to jj jj (fun w => run_gti w _ _ _ _ _ _) (vbool b3)) (jn ?_)))
    repeat (first | refine js ?_ | refine jb ?_)
    refine WpD.condT rfl ?_
    repeat (first | refine js ?_ | refine jb ?_)
    refine WpD.skip ?_
    repeat (first | refine js ?_ | refine jb ?_)
    refine jr (jL jj jj jj (jL jj jj jj (jS (ru_call C2 ⟨jj, jj, trivial⟩) (jP jj jj jj jj (jn ?_)))))
    repeat (first | refine js ?_ | refine jb ?_)
    refine jr (jm jj (jm jj (jS (rt_bin jj jj (fun w => run_andi w _ _ _ _ _ _)) (jS (rt_bin_to jj jj (fun w => run_nei w _ _ _ _ _ _) (vbool ab)) (jn ?_)))))
    repeat (first | refine js ?_ | refine jb ?_)
    refine WpD.condT rfl ?_
    repeat (first | refine js ?_ | refine jb ?_)
    refine jr (jL jj jj jj (jL jj jj jj (jS (ru_call C3 ⟨jj, jj, trivial⟩) (jP jj jj jj jj (jn ?_)))))
    repeat (first | refine js ?_ | refine jb ?_)
    refine jr (jm jj (jS (bQu jj jj hb) (ja jj (jn ?_))))
    refine ⟨⟨j, by omega⟩, ?_, Nat.lt_succ_self j⟩
    dsimp only
    rw [hNe]
    refine Sub.mk ?_ ?_ <;> repeat (first | exact trivial | refine jv jj ?_ | refine jy jj ?_ | refine jw jj (js0 jj) ?_ | refine ⟨⟨_, jj, PLe.refl _⟩, trivial, ?_⟩)
   ·rw [decide_eq_false hbit] at ab
    have eN : N / 2 + N / 2 = N := by omega
    rw [eN] at C2
    repeat (first | refine js ?_ | refine jb ?_)
    refine jr (jm jj (jS (rt_bin_to jj jj (fun w => run_gti w _ _ _ _ _ _) (vbool b3)) (jn ?_)))
    repeat (first | refine js ?_ | refine jb ?_)
    refine WpD.condT rfl ?_
    repeat (first | refine js ?_ | refine jb ?_)
    refine WpD.skip ?_
    repeat (first | refine js ?_ | refine jb ?_)
    refine jr (jL jj jj jj (jL jj jj jj (jS (ru_call C2 ⟨jj, jj, trivial⟩) (jP jj jj jj jj (jn ?_)))))
    repeat (first | refine js ?_ | refine jb ?_)
    refine jr (jm jj (jm jj (jS (rt_bin jj jj (fun w => run_andi w _ _ _ _ _ _)) (jS (rt_bin_to jj jj (fun w => run_nei w _ _ _ _ _ _) (vbool ab)) (jn ?_)))))
    repeat (first | refine js ?_ | refine jb ?_)
    refine WpD.condF rfl ?_
    repeat (first | refine js ?_ | refine jb ?_)
    refine WpD.skip ?_
    repeat (first | refine js ?_ | refine jb ?_)
    refine jr (jm jj (jS (bQu jj jj hb) (ja jj (jn ?_))))
    refine ⟨⟨j, by omega⟩, ?_, Nat.lt_succ_self j⟩
    dsimp only
    rw [hNe]
    refine Sub.mk ?_ ?_ <;> repeat (first | exact trivial | refine jv jj ?_ | refine jy jj ?_ | refine jw jj (js0 jj) ?_ | refine ⟨⟨_, jj, PLe.refl _⟩, trivial, ?_⟩)
end
end Go.Proofs.YtdieokoenhncfaaGreatDoor

/- Statements of chapter 32: Species, Cross, Mass. (With LT.skipU.) -/
import Derived.Test.YtdieokoenhncfaaGreatDoorZa
import Derived.Test.YtdieokoenhncfaaGreatDoorBe
import Derived.Test.YtdieokoenhncfaaGreatDoorAw
import Derived.Test.YtdieokoenhncfaaGreatDoorEq
set_option maxRecDepth 3000
namespace Go.Proofs.YtdieokoenhncfaaGreatDoor
open Go.RowKit Limb Num
instance cbody15 : CBody Tryz.prog 15 := ⟨⟨_, Tryz.func15, rfl, by rfl⟩⟩
instance cbody4 : CBody Tryz.prog 4 := ⟨⟨_, Tryz.func4, rfl, by rfl⟩⟩
instance cbody3 : CBody Tryz.prog 3 := ⟨⟨_, Tryz.func3, rfl, by rfl⟩⟩
instance cbody5 : CBody Tryz.prog 5 := ⟨⟨_, Tryz.func5, rfl, by rfl⟩⟩
section
variable (En : Ev)
theorem beqB (b : Bool) : (b == b) = true := by cases b <;> rfl
theorem shalf (M : Rat) (b : Bool) (hM : Sz 134217728 M) : Fn Tryz.prog En 15 [halfP M b, halfP M b] (ex (.bool true)) := by
 have C1 := qsame En M M hM hM
 rw [decide_eq_true rfl] at C1
 unfold halfP
 refine fn_of_body Tryz.func15 rfl Tryz.ntmps15 rfl ?_
 intro w0 h0
 repeat (first | refine js ?_ | refine jb ?_)
 refine jr (jB jj jj jj (jB jj jj jj (ja jj (jn ?_))))
 repeat (first | refine js ?_ | refine jb ?_)
 refine jr (jF jj jj (jL jj jj jj (jF jj jj (jL jj jj jj (jS (ru_call C1 ⟨jj, jj, trivial⟩) (jm jj ?_))))))
 first | refine jg (ru_fieldAddr jj jj) ?_ | refine jk ?_ | refine ju ?_
 first | refine jg (ru_load1 jj jj jj) ?_ | refine jk ?_ | refine ju ?_
 first | refine jg (ru_fieldAddr jj jj) ?_ | refine jk ?_ | refine ju ?_
 first | refine jg (ru_load1 jj jj jj) ?_ | refine jk ?_ | refine ju ?_
 first | refine jg (rt_bin_to jj jj (fun w => run_eqb w CBool.ok _ _ _ _) (vbool (beqB _))) ?_ | refine jk ?_ | refine ju ?_
 first | refine jq jj jj ?_ | refine jQ jj jj ?_
 refine ja jj (jn ?_)
 repeat (first | refine js ?_ | refine jb ?_)
 refine WpD.ret ?_
 exact ret1 rfl (.tmp rfl) (PLe.refl _)
theorem shalf0 : Fn Tryz.prog En 15 [zero5, zero5] (ex (.bool true)) := by
 have C1 := qsame0 En
 unfold zero5
 unfold zero4 at C1
 refine fn_of_body Tryz.func15 rfl Tryz.ntmps15 rfl ?_
 intro w0 h0
 repeat (first | refine js ?_ | refine jb ?_)
 refine jr (jB jj jj jj (jB jj jj jj (ja jj (jn ?_))))
 repeat (first | refine js ?_ | refine jb ?_)
 refine jr (jF jj jj (jL jj jj jj (jF jj jj (jL jj jj jj (jS (ru_call C1 ⟨jj, jj, trivial⟩) (jm jj ?_))))))
 first | refine jg (ru_fieldAddr jj jj) ?_ | refine jk ?_ | refine ju ?_
 first | refine jg (ru_load1 jj jj jj) ?_ | refine jk ?_ | refine ju ?_
 first | refine jg (ru_fieldAddr jj jj) ?_ | refine jk ?_ | refine ju ?_
 first | refine jg (ru_load1 jj jj jj) ?_ | refine jk ?_ | refine ju ?_
 first | refine jg (rt_bin_to jj jj (fun w => run_eqb w CBool.ok _ _ _ _) (vbool (beqB _))) ?_ | refine jk ?_ | refine ju ?_
 first | refine jq jj jj ?_ | refine jQ jj jj ?_
 refine ja jj (jn ?_)
 repeat (first | refine js ?_ | refine jb ?_)
 refine WpD.ret ?_
 exact ret1 rfl (.tmp rfl) (PLe.refl _)
def HalfA (X : Pd) : Prop := ∃ a b c d e k, X = tupP [aggP [a, b, c, d, e], ex (.int .i64 k)] ∧ Fn Tryz.prog En 15 [aggP [a, b, c, d, e], aggP [a, b, c, d, e]] (ex (.bool true))
theorem ma_form (p : Int) (f : Nat → Co) (n : Nat) : HalfA En (maG p f n) := by
 unfold maG
 by_cases ha : accP p f n
 ·rw [if_pos ha]
  by_cases hb : crH f n ≤ 128
  ·rw [if_pos hb]
   exact ⟨_, _, _, _, _, _, rfl, shalf En _ _ (mG_sz ha hb)⟩
  ·rw [if_neg hb]
   exact ⟨_, _, _, _, _, _, rfl, shalf0 En⟩
 ·rw [if_neg ha]
  exact ⟨_, _, _, _, _, _, rfl, shalf0 En⟩
end
section
variable (p : Int) (f : Nat → Co) (n : Nat) (pk : Int) (x : Nat → By) (m : Nat) (at' fl v : Int) (made : Bool) (k1 : 0 ≤ pk) (k2 : pk ≤ 255) (a1 : 0 ≤ at') (a2 : at' ≤ 255) (b1 : 0 ≤ fl)
include k1 k2 a1 a2 b1
set_option maxHeartbeats 2000000 in
theorem lspecies (e : Int) (small : Bool) : Fn Tryz.prog TabD 4 [locP p f n, aggP [ex (.int .u8 pk), slc 5 (rows (bys x) m) m], ex (.int .u8 at'), ex (.int .u8 fl), ex (.int .i8 v), ex (.int .i64 e), ex (.bool made), ex (.bool small)] (ex (.bool true)) := by
 have C0 := llong TabD p f n
 by_cases hn : n ≤ 20
 ·rw [decide_eq_false (show ¬ (n : Int) > 20 by omega)] at C0
  by_cases hm : m ≤ 20
  ·obtain ⟨p', g, n', hn', CS⟩ := lsome TabD p f n hn pk x m hm k1 k2 at' fl v a1 a2 b1 made
   cases small with
   | true =>
    have C1 := tSpecies p' g n' (e.tmod 9) hn'
    have C2 := rSpecies TabD p' g n' (e.tmod 9) hn'
    unfold spT at C1 C2
    generalize spA p' g n' (e.tmod 9) = r at *
    unfold locP at *
    refine fn_of_body Tryz.func4 rfl Tryz.ntmps4 rfl ?_
    intro w0 h0
    refine js (jr (jB jj jj jj (jB jj jj jj (ja jj (jn (js (js (jr (jL jj jj jj (jS (ru_call C0 ⟨jj, trivial⟩) (jm jj (jg (ru_fieldAddr jj jj) (jg (ru_load1 jj jj jj) (jg (ru_len jj CSlice.ok) (jg (bGf jj jj) (jQ jj jj (jn (jf jj (jp (js (js (jr (jm jj (jn (jt jj (jr (jm jj (jS (rt_bin jj jj (fun w => run_remi w _ _ _ _ _ _ (by first | decide | omega | assumption))) (ja jj (jn (js (jr (jL jj jj jj (jL jj jj jj (jm jj (jm jj (jm jj (jm jj (jS (ru_call CS ⟨jj, jj, jj, jj, jj, jj, trivial⟩) (jA jj jj jj (jP jj jj jj jj (jn ?_))))))))))))))))))))))))))))))))))))))))))
    refine js (jr (jL jj jj jj (jm jj (jS (ru_call C1 ⟨jj, jj, trivial⟩) (jm jj (jx' jj jj (jx' jj jj (jA jj jj jj (jP jj jj jj jj (ja jj (jn (js (jr (jL jj jj jj (jm jj (jS (ru_call C2 ⟨jj, jj, trivial⟩) (jm jj (jx' jj jj (jx' jj jj (jA jj jj jj (jP jj jj jj jj (ja jj (jn (js (jr (jL jj jj jj (jL jj jj jj (jS (ru_eqSpec jj jj) (jm jj (jg (rt_move jj) (jg (rt_move jj) (jg (bEt jj jj) (jq jj jj (jm jj (jg (ru_call awake32 trivial) (jq jj jj (ja jj (jn (ji ?_)))))))))))))))))))))))))))))))))))))))
    exact ret1 rfl (.tmp rfl) (PLe.refl _)
   | false =>
    have C1 := tSpecies p' g n' e hn'
    have C2 := rSpecies TabD p' g n' e hn'
    unfold spT at C1 C2
    generalize spA p' g n' e = r at *
    unfold locP at *
    refine fn_of_body Tryz.func4 rfl Tryz.ntmps4 rfl ?_
    intro w0 h0
    refine js (jr (jB jj jj jj (jB jj jj jj (ja jj (jn (js (js (jr (jL jj jj jj (jS (ru_call C0 ⟨jj, trivial⟩) (jm jj (jg (ru_fieldAddr jj jj) (jg (ru_load1 jj jj jj) (jg (ru_len jj CSlice.ok) (jg (bGf jj jj) (jQ jj jj (jn (jf jj (jp (js (js (jr (jm jj (jn (jf jj (jp (js (jr (jL jj jj jj (jL jj jj jj (jm jj (jm jj (jm jj (jm jj (jS (ru_call CS ⟨jj, jj, jj, jj, jj, jj, trivial⟩) (jA jj jj jj (jP jj jj jj jj (jn (js (jr (jL jj jj jj (jm jj (jS (ru_call C1 ⟨jj, jj, trivial⟩) (jm jj (jx' jj jj (jx' jj jj (jA jj jj jj (jP jj jj jj jj (ja jj (jn ?_))))))))))))))))))))))))))))))))))))))))))))))))))
    refine js (jr (jL jj jj jj (jm jj (jS (ru_call C2 ⟨jj, jj, trivial⟩) (jm jj (jx' jj jj (jx' jj jj (jA jj jj jj (jP jj jj jj jj (ja jj (jn (js (jr (jL jj jj jj (jL jj jj jj (jS (ru_eqSpec jj jj) (jm jj (jg (rt_move jj) (jg (rt_move jj) (jg (bEt jj jj) (jq jj jj (jm jj (jg (ru_call awake32 trivial) (jq jj jj (ja jj (jn (ji ?_)))))))))))))))))))))))))))
    exact ret1 rfl (.tmp rfl) (PLe.refl _)
  ·have hm' : (m : Int) > 20 := by omega
   unfold locP at *
   refine fn_of_body Tryz.func4 rfl Tryz.ntmps4 rfl ?_
   intro w0 h0
   refine js (jr (jB jj jj jj (jB jj jj jj (ja jj (jn (js (js (jr (jL jj jj jj (jS (ru_call C0 ⟨jj, trivial⟩) (jm jj (jg (ru_fieldAddr jj jj) (jg (ru_load1 jj jj jj) (jg (ru_len jj CSlice.ok) (jg (bGt jj jj) (jQ jj jj (jn (jt jj (js (jr (jS (ru_call awake32 trivial) (ja jj (jn (ji ?_))))))))))))))))))))))))
   exact ret1 rfl (.tmp rfl) (PLe.refl _)
 ·rw [decide_eq_true (show (n : Int) > 20 by omega)] at C0
  unfold locP at *
  refine fn_of_body Tryz.func4 rfl Tryz.ntmps4 rfl ?_
  intro w0 h0
  refine js (jr (jB jj jj jj (jB jj jj jj (ja jj (jn (js (js (jr (jL jj jj jj (jS (ru_call C0 ⟨jj, trivial⟩) (jm jj (jk (jk (jk (jk (jq jj jj (jn (jt jj (js (jr (jS (ru_call awake32 trivial) (ja jj (jn (ji ?_))))))))))))))))))))))))
  exact ret1 rfl (.tmp rfl) (PLe.refl _)
end
end Go.Proofs.YtdieokoenhncfaaGreatDoor

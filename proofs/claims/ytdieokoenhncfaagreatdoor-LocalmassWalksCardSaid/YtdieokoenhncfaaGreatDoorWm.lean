/- The statement Walks. (With LT.skipU.) -/
import Derived.Test.YtdieokoenhncfaaGreatDoorZa
import Derived.Test.YtdieokoenhncfaaGreatDoorWl
import Derived.Test.YtdieokoenhncfaaGreatDoorLt
set_option maxRecDepth 3000
namespace Go.Proofs.YtdieokoenhncfaaGreatDoor
open Go.RowKit Limb Num
instance cbody7 : CBody Tryz.prog 7 := ⟨⟨_, Tryz.func7, rfl, by rfl⟩⟩
set_option maxHeartbeats 2000000 in
theorem lwalks (pk : Int) (x : Nat → By) (m : Nat) (k : Int) (q1 : 0 ≤ k) (q2 : k ≤ 255) : Fn Tryz.prog TabD 7 [aggP [ex (.int .u8 pk), slc 5 (rows (bys x) m) m], ex (.int .u8 k)] (ex (.bool true)) := by
 by_cases hm : m ≤ 20
 ·have hm' : ¬ (m : Int) > 20 := by omega
  have C0 := sraw TabD pk x m hm
  have hraw := scRaw x m
  have hn8 := (scOdd x m).n8
  have hn : scN x m ≤ 20 := by omega
  have hE : -1 ≤ k % 12 - 1 ∧ k % 12 - 1 ≤ 61 := by omega
  generalize scT x m = f at *
  generalize scN x m = n at *
  have C1 := rcanon TabD 2 f n hn hraw
  have ha : accP 2 f n := .inr (.inl hraw)
  obtain ⟨hb, hL, hk⟩ := can_acc hraw
  have S1 := tSpecies 2 f n (k % 12 - 1) hn
  have S2 := tSpecies 2 (canf f n) n (k % 12 - 1) hn
  have M1 := tMass 2 f n hn
  have M2 := tMass 2 (canf f n) n hn
  rw [maG_like hL ha hb hk] at M2
  unfold spT spA at S1 S2
  rw [if_pos ha, if_pos hE] at S1
  rw [if_pos hb, if_pos hE, hk] at S2
  dsimp only at S1 S2
  obtain ⟨c0, c1, c2, c3, c4, er, e, CH⟩ := ma_form TabD 2 f n
  rw [e] at M1 M2
  have wk : IntKind.i64.wrap k = k := w64 (by omega) (by omega)
  have wr : k.tmod 12 = k % 12 := Int.tmod_eq_emod_of_nonneg q1
  have ws : IntKind.i64.wrap (k % 12 - 1) = k % 12 - 1 := w64 (by omega) (by omega)
  clear e hk hL hb ha hraw
  generalize kin 2 f n (k % 12 - 1) = r at *
  generalize canf f n = g at *
  unfold locP at *
  refine fn_of_body Tryz.func7 rfl Tryz.ntmps7 rfl ?_
  intro w0 h0
  refine js (jr (jB jj jj jj (ja jj (jn (js (js (jr (jF jj jj (jl jj jj jj (jE jj (jS (bGf jj jj) (jn (jf jj (jp (js (jr (jL jj jj jj (jS (ru_call C0 ⟨jj, jj, trivial⟩) (jA jj jj jj (jP jj jj jj jj (jn (js (jr (jL jj jj jj (jS (ru_call C1 ⟨jj, trivial⟩) (jm jj (jx' jj jj (jx' jj jj (jA jj jj jj (jP jj jj jj jj (ja jj (jn (js (jr (jL jj jj jj (jm jj (jS (bCv jj wk) (jS (bRe jj jj wr) (jS (bSu jj jj ws) (jS (ru_call S1 ⟨jj, jj, trivial⟩) (jm jj (jx' jj jj (jx' jj jj (jA jj jj jj (jP jj jj jj jj (ja jj (jn ?_)))))))))))))))))))))))))))))))))))))))))))))))
  refine js (jr (jL jj jj jj (jm jj (jS (bCv jj wk) (jS (bRe jj jj wr) (jS (bSu jj jj ws) (jS (ru_call S2 ⟨jj, jj, trivial⟩) (jm jj (jx' jj jj (jx' jj jj (jA jj jj jj (jP jj jj jj jj (ja jj (jn (js (jr (jL jj jj jj (jS (ru_call M1 ⟨jj, trivial⟩) (jm jj (jx' jj jj (jx' jj jj (jA jj jj jj (jP jj jj jj jj (ja jj (jn (js (jr (jL jj jj jj (jS (ru_call M2 ⟨jj, trivial⟩) (jm jj (jx' jj jj (jx' jj jj (jA jj jj jj (jP jj jj jj jj (ja jj (jn (js (jr (jm jj (jS (bEt jj jj) (jm jj (jg (rt_move jj) (jg (bEt jj jj) (jq jj jj (jm jj (jg (rt_move jj) (jg (rt_move jj) (jg (bEt jj jj) (jq jj jj (jm jj (jg (ru_loadR jj jj jj jj) (jg (ru_loadR jj jj jj jj) (jg (ru_eqSpec jj jj) (jq jj jj (jm jj (jg (ru_loadR jj jj jj jj) (jg (ru_loadR jj jj jj jj) (jg (ru_call CH ⟨jj, jj, trivial⟩) (jq jj jj (jm jj (jg (ru_call awake32 trivial) (jq jj jj (ja jj (jn ?_))))))))))))))))))))))))))))))))))))))))))))))))))))))))))))))))
  refine ji ?_
  exact ret1 rfl (.tmp rfl) (PLe.refl _)
 ·have hm' : (m : Int) > 20 := by omega
  refine fn_of_body Tryz.func7 rfl Tryz.ntmps7 rfl ?_
  intro w0 h0
  refine js (jr (jB jj jj jj (ja jj (jn (js (js (jr (jF jj jj (jl jj jj jj (jE jj (jS (bGt jj jj) (jn (jt jj (js (jr (jS (ru_call awake32 trivial) (ja jj (jn (ji ?_)))))))))))))))))))
  exact ret1 rfl (.tmp rfl) (PLe.refl _)
end Go.Proofs.YtdieokoenhncfaaGreatDoor

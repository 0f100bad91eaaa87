/- Integers of the program: build, Small, Sign, Int64, Mul, DivMod. -/
import Derived.Test.YtdieokoenhncfaaGreatDoorMem
import Derived.Test.YtdieokoenhncfaaGreatDoorO
import Derived.Test.YtdieokoenhncfaaGreatDoorZa
import Derived.Test.YtdieokoenhncfaaGreatDoorL
set_option maxRecDepth 3000
namespace Go.Proofs.YtdieokoenhncfaaGreatDoor
open Go.RowKit Limb
instance : CRow Tryz.prog 34 2 := ⟨⟨_, Tryz.underlying34, rfl, by kernel_rfl⟩⟩
instance : CField Tryz.prog 34 0 0 := ⟨⟨_, _, Tryz.underlying34, rfl, rfl, by kernel_rfl⟩⟩
instance : CField Tryz.prog 34 1 1 := ⟨⟨_, _, Tryz.underlying34, rfl, rfl, by kernel_rfl⟩⟩
instance : CFieldT Tryz.prog 34 0 0 4 := ⟨⟨_, _, Tryz.underlying34, rfl, rfl, rfl⟩⟩
instance : CFieldT Tryz.prog 34 1 1 32 := ⟨⟨_, _, Tryz.underlying34, rfl, rfl, rfl⟩⟩
theorem gZZ : bZO Tryz.prog 34 [.bool false, .slice none 0 0] := ⟨by kernel_rfl, by simp [Value.oneCell']⟩
instance : CZero Tryz.prog 34 [.bool false, .slice none 0 0] := ⟨gZZ⟩
instance : CStruct Tryz.prog 34 [(0, 1), (1, 1)] [.bool false, .slice none 0 0] := ⟨⟨gZZ, _, Tryz.underlying34, fun _ => by kernel_rfl⟩⟩
instance cbody105 : CBody Tryz.prog 105 := ⟨⟨_, Tryz.func105, rfl, by rfl⟩⟩
instance cbody59 : CBody Tryz.prog 59 := ⟨⟨_, Tryz.func59, rfl, by rfl⟩⟩
instance cbody99 : CBody Tryz.prog 99 := ⟨⟨_, Tryz.func99, rfl, by rfl⟩⟩
instance cbody100 : CBody Tryz.prog 100 := ⟨⟨_, Tryz.func100, rfl, by rfl⟩⟩
instance cbody103 : CBody Tryz.prog 103 := ⟨⟨_, Tryz.func103, rfl, by rfl⟩⟩
section
variable (En : Ev)
theorem bZN (s : Bool) (n : Nat) : Fn Tryz.prog En 105 [ex (.bool s), mag (digs n)] (zC (sgnZ s n)) := by
 have hb := eZw n
 by_cases hn : n = 0
 ·subst hn
  have e : sgnZ s 0 = 0 := by unfold sgnZ; cases s <;> rfl
  rw [e]
  rw [decide_eq_true rfl] at hb
  refine aZb Tryz.func105 rfl Tryz.ntmps105 rfl ?_
  intro w0 h0
  repeat (first | apply js | apply jb)
  refine jr (jA jj jj jj (jn ?_))
  repeat (first | apply js | apply jb)
  refine jr (jm jj (jE jj (jS (aZd jj jj (fun w => aZ4 w _ _ _ _ _ _) (aZm hb)) (jn ?_))))
  repeat (first | apply js | apply jb)
  refine WpD.condT rfl ?_
  repeat (first | apply js | apply jb)
  refine jr (jS (aZl (ps := []) trivial jj) (jP jj jj jj jj (jn ?_)))
  repeat (first | apply js | apply jb)
  refine WpD.ret ?_
  exact ret1 rfl (.cell rfl rfl CRow.ok rfl) hZb
 ·rw [decide_eq_false hn] at hb
  rw [zC_sgn hn]
  refine aZb Tryz.func105 rfl Tryz.ntmps105 rfl ?_
  intro w0 h0
  repeat (first | apply js | apply jb)
  refine jr (jA jj jj jj (jn ?_))
  repeat (first | apply js | apply jb)
  refine jr (jm jj (jE jj (jS (aZd jj jj (fun w => aZ4 w _ _ _ _ _ _) (aZm hb)) (jn ?_))))
  repeat (first | apply js | apply jb)
  refine WpD.condF rfl ?_
  repeat (first | apply js | apply jb)
  refine WpD.skip ?_
  repeat (first | apply js | apply jb)
  refine jr (jm jj (jm jj (jS (aZl (ps := [(_, _), (_, _)]) ⟨jj, Part.c jj, jj, Part.c jj, trivial⟩ jj) (jP jj jj jj jj (jn ?_)))))
  repeat (first | apply js | apply jb)
  refine WpD.ret ?_
  exact rtC rfl jj jj
theorem mZC (n : Int) (h1 : -9223372036854775808 ≤ n) (h2 : n ≤ 9223372036854775807) : Fn Tryz.prog En 59 [ex (.int .i64 n)] (zC n) := by
 by_cases hn : n < 0
 ·have b1 : decide (n < 0) = true := decide_eq_true hn
  have e1 : IntKind.u64.wrap n = n + 18446744073709551616 := by rw [IntKind.wrap_u64]; omega
  have e2 : IntKind.u64.wrap (-(n + 18446744073709551616)) = (n.natAbs : Int) := by rw [IntKind.wrap_u64]; omega
  have C1 := bZI En n.natAbs (by omega)
  have C2 := bZN En true n.natAbs
  rw [show sgnZ true n.natAbs = n by unfold sgnZ; simp; omega] at C2
  refine aZb Tryz.func59 rfl Tryz.ntmps59 rfl ?_
  intro w0 h0
  repeat (first | apply js | apply jb)
  refine jr (jA jj jj jj (jn ?_))
  repeat (first | apply js | apply jb)
  refine jr (jm jj (jS (aZd jj jj (fun w => aZw w _ _ _ _ _ _) (aZm b1)) (jn ?_)))
  repeat (first | apply js | apply jb)
  refine WpD.condT rfl ?_
  repeat (first | apply js | apply jb)
  refine jr (jm jj (jS (bCv jj e1) (jS (bZB jj (fun w => bZA w _ _) (vint e2)) (jS (aZa C1 ⟨jj, trivial⟩) (jS (aZa C2 ⟨jj, jj, trivial⟩) (jP jj jj jj jj (jn ?_)))))))
  repeat (first | apply js | apply jb)
  refine WpD.ret ?_
  exact rtC rfl jj jj
 ·have b1 : decide (n < 0) = false := decide_eq_false hn
  have e1 : IntKind.u64.wrap n = (n.natAbs : Int) := by rw [IntKind.wrap_u64]; omega
  have C1 := bZI En n.natAbs (by omega)
  have C2 := bZN En false n.natAbs
  rw [show sgnZ false n.natAbs = n by unfold sgnZ; simp; omega] at C2
  refine aZb Tryz.func59 rfl Tryz.ntmps59 rfl ?_
  intro w0 h0
  repeat (first | apply js | apply jb)
  refine jr (jA jj jj jj (jn ?_))
  repeat (first | apply js | apply jb)
  refine jr (jm jj (jS (aZd jj jj (fun w => aZw w _ _ _ _ _ _) (aZm b1)) (jn ?_)))
  repeat (first | apply js | apply jb)
  refine WpD.condF rfl ?_
  repeat (first | apply js | apply jb)
  refine WpD.skip ?_
  repeat (first | apply js | apply jb)
  refine jr (jm jj (jS (bCv jj e1) (jS (aZa C1 ⟨jj, trivial⟩) (jS (aZa C2 ⟨jj, jj, trivial⟩) (jP jj jj jj jj (jn ?_))))))
  repeat (first | apply js | apply jb)
  refine WpD.ret ?_
  exact rtC rfl jj jj
theorem jZQ (s : Bool) (l : List Nat) (hl : Lm l) (hlen : l.length ≤ 1099511627776) : Fn Tryz.prog En 99 [zR s l] (ex (.int .i64 (sg3 (zv s l)))) := by
 have C1 := bZL En l hl hlen
 unfold zv
 generalize val l = n at *
 have hb := eZw n
 by_cases hn : n = 0
 ·subst hn
  rw [decide_eq_true rfl] at hb
  rw [show sg3 (sgnZ s 0) = 0 by cases s <;> rfl]
  refine aZb Tryz.func99 rfl Tryz.ntmps99 rfl ?_
  intro w0 h0
  repeat (first | apply js | apply jb)
  refine jr (jB jj jj jj (ja jj (jn ?_)))
  repeat (first | apply js | apply jb)
  refine jr (jF jj jj (jl jj jj jj (jS (aZa C1 ⟨jj, trivial⟩) (jE jj (jS (aZd jj jj (fun w => aZ4 w _ _ _ _ _ _) (aZm hb)) (ja jj (jn ?_)))))))
  repeat (first | apply js | apply jb)
  refine WpD.condT rfl ?_
  repeat (first | apply js | apply jb)
  refine jr (ja jj (jn ?_))
  repeat (first | apply js | apply jb)
  refine WpD.ret ?_
  exact rtT rfl jj
 ·rw [decide_eq_false hn] at hb
  cases s with
  | true =>
   rw [show sg3 (sgnZ true n) = -1 by unfold sg3 sgnZ; simp; omega]
   refine aZb Tryz.func99 rfl Tryz.ntmps99 rfl ?_
   intro w0 h0
   repeat (first | apply js | apply jb)
   refine jr (jB jj jj jj (ja jj (jn ?_)))
   repeat (first | apply js | apply jb)
   refine jr (jF jj jj (jl jj jj jj (jS (aZa C1 ⟨jj, trivial⟩) (jE jj (jS (aZd jj jj (fun w => aZ4 w _ _ _ _ _ _) (aZm hb)) (ja jj (jn ?_)))))))
   repeat (first | apply js | apply jb)
   refine WpD.condF rfl ?_
   repeat (first | apply js | apply jb)
   refine jr (jF jj jj (jl jj jj jj (ja jj (jn ?_))))
   repeat (first | apply js | apply jb)
   refine WpD.condT rfl ?_
   repeat (first | apply js | apply jb)
   refine jr (ja jj (jn ?_))
   repeat (first | apply js | apply jb)
   refine WpD.ret ?_
   exact rtT rfl jj
  | false =>
   rw [show sg3 (sgnZ false n) = 1 by unfold sg3 sgnZ; simp; omega]
   refine aZb Tryz.func99 rfl Tryz.ntmps99 rfl ?_
   intro w0 h0
   repeat (first | apply js | apply jb)
   refine jr (jB jj jj jj (ja jj (jn ?_)))
   repeat (first | apply js | apply jb)
   refine jr (jF jj jj (jl jj jj jj (jS (aZa C1 ⟨jj, trivial⟩) (jE jj (jS (aZd jj jj (fun w => aZ4 w _ _ _ _ _ _) (aZm hb)) (ja jj (jn ?_)))))))
   repeat (first | apply js | apply jb)
   refine WpD.condF rfl ?_
   repeat (first | apply js | apply jb)
   refine jr (jF jj jj (jl jj jj jj (ja jj (jn ?_))))
   repeat (first | apply js | apply jb)
   refine WpD.condF rfl ?_
   repeat (first | apply js | apply jb)
   refine WpD.skip ?_
   repeat (first | apply js | apply jb)
   refine jr (ja jj (jn ?_))
   repeat (first | apply js | apply jb)
   refine WpD.ret ?_
   exact rtT rfl jj
theorem imul (s : Bool) (l : List Nat) (s' : Bool) (l' : List Nat) (hl : Lm l) (hl' : Lm l') (hlen : l.length ≤ 274877906944) (hlen' : l'.length ≤ 274877906944) :
  Fn Tryz.prog En 100 [zR s l, zR s' l'] (zC (zv s l * zv s' l')) := by
 have C1 := bZL En l hl (by omega)
 have C2 := bZL En l' hl' (by omega)
 have D1 := aZZ hlen hl
 have D2 := aZZ hlen' hl'
 unfold zv
 rw [hZh]
 generalize val l = x at *
 generalize val l' = y at *
 have C3 := nmul En (digs x) (digs y) D1 D2 (aZk _) (aZk _)
 rw [aZq, aZq] at C3
 have C4 := bZN En (s != s') (x * y)
 refine aZb Tryz.func100 rfl Tryz.ntmps100 rfl ?_
 intro w0 h0
 repeat (first | apply js | apply jb)
 refine jr (jB jj jj jj (jB jj jj jj (jA jj jj jj (jn ?_))))
 repeat (first | apply js | apply jb)
 refine jr (jF jj jj (jl jj jj jj (jF jj jj (jl jj jj jj (jS (aZu jj jj (fun w => bZz w CBool.ok _ _ _ _)) (jF jj jj (jl jj jj jj (jS (aZa C1 ⟨jj, trivial⟩) (jF jj jj (jl jj jj jj (jS (aZa C2 ⟨jj, trivial⟩) (jS (aZa C3 ⟨jj, jj, trivial⟩) (jS (aZa C4 ⟨jj, jj, trivial⟩) (jP jj jj jj jj (jn ?_)))))))))))))))
 repeat (first | apply js | apply jb)
 refine WpD.ret ?_
 exact rtC rfl jj jj
set_option maxHeartbeats 1000000 in
theorem jZS (s : Bool) (l : List Nat) (s' : Bool) (l' : List Nat) (hl : Lm l) (hl' : Lm l') (hlen : l.length ≤ 274877906944) (hlen' : l'.length ≤ 274877906944) (hy : zv s' l' ≠ 0) :
  Fn Tryz.prog En 103 [zR s l, zR s' l'] (tupP [zC (zv s l / zv s' l'), zC (zv s l % zv s' l'), ex (.bool true)]) := by
 have C1 := bZL En l' hl' (by omega)
 have C2 := bZL En l hl (by omega)
 have D1 := aZZ hlen hl
 have D2 := aZZ hlen' hl'
 unfold zv at hy ⊢
 generalize val l = x at *
 generalize val l' = y at *
 have hy0 : y ≠ 0 := by rintro rfl; apply hy; cases s' <;> rfl
 have C3 := ndiv En x y (by omega) hy0
 unfold DivP at C3
 have b1 := eZw y
 rw [decide_eq_false hy0] at b1
 have Q1 : (digs (x / y)).length ≤ 274877906944 := Nat.le_trans (aZG (Nat.div_le_self _ _)) D1
 have hlt := Nat.mod_lt x (Nat.pos_of_ne_zero hy0)
 have C5 := bZN En false (x % y)
 have e5 : sgnZ false (x % y) = ((x % y : Nat) : Int) := rfl
 rw [e5] at C5
 cases s with
 | false =>
  have C4 := bZN En s' (x / y)
  obtain ⟨e1, e2⟩ := mZu (s := false) (s' := s') hy0 (.inl rfl)
  rw [e1, e2, Bool.false_bne]
  refine aZb Tryz.func103 rfl Tryz.ntmps103 rfl ?_
  intro w0 h0
  repeat (first | apply js | apply jb)
  refine jr (jB jj jj jj (jB jj jj jj (jA jj jj jj (jA jj jj jj (ja jj (jn ?_))))))
  repeat (first | apply js | apply jb)
  refine jr (jF jj jj (jl jj jj jj (jS (aZa C1 ⟨jj, trivial⟩) (ja jj (jn ?_)))))
  repeat (first | apply js | apply jb)
  refine jr (jm jj (jE jj (jS (aZd jj jj (fun w => aZ4 w _ _ _ _ _ _) (aZm b1)) (jn ?_))))
  repeat (first | apply js | apply jb)
  refine WpD.condF rfl ?_
  repeat (first | apply js | apply jb)
  refine WpD.skip ?_
  repeat (first | apply js | apply jb)
  refine jr (jF jj jj (jl jj jj jj (jS (aZa C2 ⟨jj, trivial⟩) (jm jj (jS (aZa C3 ⟨jj, jj, trivial⟩) (jm jj (jx' jj jj (jx' jj jj (ja jj (ja jj (jn ?_)))))))))))
  repeat (first | apply js | apply jb)
  refine jr (jF jj jj (jl jj jj jj (ja jj (jn ?_))))
  repeat (first | apply js | apply jb)
  refine jr (jF jj jj (jl jj jj jj (jm jj ?_)))
  first | refine jgm jj ?_ | refine jk ?_
  first | refine jg (bZd jj CSlice.ok) ?_ | refine jk ?_
  first | refine jg (aZu jj jj (fun w => aZM w _ _ _ _ _ _)) ?_ | refine jk ?_
  first | refine jq jj jj ?_ | refine jQ jj jj ?_
  refine ja jj (jn ?_)
  repeat (first | apply js | apply jb)
  refine WpD.condF rfl ?_
  repeat (first | apply js | apply jb)
  refine WpD.skip ?_
  repeat (first | apply js | apply jb)
  refine jr (jF jj jj (jl jj jj jj (ja jj (jn ?_))))
  repeat (first | apply js | apply jb)
  refine WpD.condF rfl ?_
  repeat (first | apply js | apply jb)
  refine WpD.skip ?_
  repeat (first | apply js | apply jb)
  refine WpD.exit ?_
  repeat (first | apply js | apply jb)
  refine jr (jm jj (jm jj (jS (aZa C4 ⟨jj, jj, trivial⟩) (jm jj (jS (aZa C5 ⟨jj, jj, trivial⟩) (jP jj jj jj jj (jP jj jj jj jj (ja jj (jn ?_)))))))))
  repeat (first | apply js | apply jb)
  refine WpD.ret ?_
  exact ret3 rfl (.cell rfl rfl CRow.ok rfl) (.cell rfl rfl CRow.ok rfl) (.tmp rfl) (PLe.refl _)
 | true =>
  by_cases hr : x % y = 0
  ·have b2 : decide (((digs (x % y)).length : Int) > 0) = false := by rw [hr]; rfl
   have C4 := bZN En (!s') (x / y)
   obtain ⟨e1, e2⟩ := mZu (s := true) (s' := s') hy0 (.inr hr)
   rw [e1, e2, Bool.true_bne]
   refine aZb Tryz.func103 rfl Tryz.ntmps103 rfl ?_
   intro w0 h0
   repeat (first | apply js | apply jb)
   refine jr (jB jj jj jj (jB jj jj jj (jA jj jj jj (jA jj jj jj (ja jj (jn ?_))))))
   repeat (first | apply js | apply jb)
   refine jr (jF jj jj (jl jj jj jj (jS (aZa C1 ⟨jj, trivial⟩) (ja jj (jn ?_)))))
   repeat (first | apply js | apply jb)
   refine jr (jm jj (jE jj (jS (aZd jj jj (fun w => aZ4 w _ _ _ _ _ _) (aZm b1)) (jn ?_))))
   repeat (first | apply js | apply jb)
   refine WpD.condF rfl ?_
   repeat (first | apply js | apply jb)
   refine WpD.skip ?_
   repeat (first | apply js | apply jb)
   refine jr (jF jj jj (jl jj jj jj (jS (aZa C2 ⟨jj, trivial⟩) (jm jj (jS (aZa C3 ⟨jj, jj, trivial⟩) (jm jj (jx' jj jj (jx' jj jj (ja jj (ja jj (jn ?_)))))))))))
   repeat (first | apply js | apply jb)
   refine jr (jF jj jj (jl jj jj jj (ja jj (jn ?_))))
   repeat (first | apply js | apply jb)
   refine jr (jF jj jj (jl jj jj jj (jm jj ?_)))
   first | refine jgm jj ?_ | refine jk ?_
   first | refine jg (bZd jj CSlice.ok) ?_ | refine jk ?_
   first | refine jg (aZd jj jj (fun w => aZM w _ _ _ _ _ _) (aZm b2)) ?_ | refine jk ?_
   first | refine jq jj jj ?_ | refine jQ jj jj ?_
   refine ja jj (jn ?_)
   repeat (first | apply js | apply jb)
   refine WpD.condF rfl ?_
   repeat (first | apply js | apply jb)
   refine WpD.skip ?_
   repeat (first | apply js | apply jb)
   refine jr (jF jj jj (jl jj jj jj (ja jj (jn ?_))))
   repeat (first | apply js | apply jb)
   refine WpD.condT rfl ?_
   repeat (first | apply js | apply jb)
   refine WpD.exit ?_
   repeat (first | apply js | apply jb)
   refine jr (jm jj (jS (bNo jj) (ja jj (jn ?_))))
   repeat (first | apply js | apply jb)
   refine WpD.exit ?_
   repeat (first | apply js | apply jb)
   refine jr (jm jj (jm jj (jS (aZa C4 ⟨jj, jj, trivial⟩) (jm jj (jS (aZa C5 ⟨jj, jj, trivial⟩) (jP jj jj jj jj (jP jj jj jj jj (ja jj (jn ?_)))))))))
   repeat (first | apply js | apply jb)
   refine WpD.ret ?_
   exact ret3 rfl (.cell rfl rfl CRow.ok rfl) (.cell rfl rfl CRow.ok rfl) (.tmp rfl) (PLe.refl _)
  ·have b2 : decide (((digs (x % y)).length : Int) > 0) = true := by rw [aZF hr]; simp
   have hlm1 : Lm [1] := Lm.cons (by rw [aZ0]; omega) Lm.nil
   have C6 := nadd En (digs (x / y)) [1] (by omega) (by simp) (aZk _) hlm1
   rw [aZq, show val [1] = 1 by rfl] at C6
   have C7 := nsub En (digs y) (digs (x % y)) (by omega) (aZG (by omega)) (aZk _) (aZk _) (by rw [aZq, aZq]; omega)
   rw [aZq, aZq] at C7
   have C4 := bZN En (!s') (x / y + 1)
   have C8 := bZN En false (y - x % y)
   rw [show sgnZ false (y - x % y) = ((y - x % y : Nat) : Int) from rfl] at C8
   obtain ⟨e1, e2⟩ := kZP (s' := s') hy0 hr
   rw [e1, e2]
   refine aZb Tryz.func103 rfl Tryz.ntmps103 rfl ?_
   intro w0 h0
   repeat (first | apply js | apply jb)
   refine jr (jB jj jj jj (jB jj jj jj (jA jj jj jj (jA jj jj jj (ja jj (jn ?_))))))
   repeat (first | apply js | apply jb)
   refine jr (jF jj jj (jl jj jj jj (jS (aZa C1 ⟨jj, trivial⟩) (ja jj (jn ?_)))))
   repeat (first | apply js | apply jb)
   refine jr (jm jj (jE jj (jS (aZd jj jj (fun w => aZ4 w _ _ _ _ _ _) (aZm b1)) (jn ?_))))
   repeat (first | apply js | apply jb)
   refine WpD.condF rfl ?_
   repeat (first | apply js | apply jb)
   refine WpD.skip ?_
   repeat (first | apply js | apply jb)
   refine jr (jF jj jj (jl jj jj jj (jS (aZa C2 ⟨jj, trivial⟩) (jm jj (jS (aZa C3 ⟨jj, jj, trivial⟩) (jm jj (jx' jj jj (jx' jj jj (ja jj (ja jj (jn ?_)))))))))))
   repeat (first | apply js | apply jb)
   refine jr (jF jj jj (jl jj jj jj (ja jj (jn ?_))))
   repeat (first | apply js | apply jb)
   refine jr (jF jj jj (jl jj jj jj (jm jj ?_)))
   first | refine jgm jj ?_ | refine jk ?_
   first | refine jg (bZd jj CSlice.ok) ?_ | refine jk ?_
   first | refine jg (aZd jj jj (fun w => aZM w _ _ _ _ _ _) (aZm b2)) ?_ | refine jk ?_
   first | refine jq jj jj ?_ | refine jQ jj jj ?_
   refine ja jj (jn ?_)
   repeat (first | apply js | apply jb)
   refine WpD.condT rfl ?_
   repeat (first | apply js | apply jb)
   refine WpD.exit ?_
   repeat (first | apply js | apply jb)
   refine jr (jm jj (jS (fZW (l := [1]) ⟨jj, jj, trivial⟩ jj jj jj hlm1) (jS (aZa C6 ⟨jj, jj, trivial⟩) (ja jj (jn ?_)))))
   repeat (first | apply js | apply jb)
   refine jr (jm jj (jm jj (jS (aZa C7 ⟨jj, jj, trivial⟩) (ja jj (jn ?_)))))
   repeat (first | apply js | apply jb)
   refine jr (jm jj (jS (bNo jj) (ja jj (jn ?_))))
   repeat (first | apply js | apply jb)
   refine WpD.exit ?_
   repeat (first | apply js | apply jb)
   refine jr (jm jj (jm jj (jS (aZa C4 ⟨jj, jj, trivial⟩) (jm jj (jS (aZa C8 ⟨jj, jj, trivial⟩) (jP jj jj jj jj (jP jj jj jj jj (ja jj (jn ?_)))))))))
   repeat (first | apply js | apply jb)
   refine WpD.ret ?_
   exact ret3 rfl (.cell rfl rfl CRow.ok rfl) (.cell rfl rfl CRow.ok rfl) (.tmp rfl) (PLe.refl _)
end
end Go.Proofs.YtdieokoenhncfaaGreatDoor
/- The reference's divide, in full. -/
namespace Go.Proofs.YtdieokoenhncfaaGreatDoor
open Go.RowKit Limb
instance cbody150 : CBody Tryz.prog 150 := ⟨⟨_, Tryz.func150, rfl, by rfl⟩⟩
instance cbody123 : CBody Tryz.prog 123 := ⟨⟨_, Tryz.func123, rfl, by rfl⟩⟩
instance cbody147 : CBody Tryz.prog 147 := ⟨⟨_, Tryz.func147, rfl, by rfl⟩⟩
instance cbody116 : CBody Tryz.prog 116 := ⟨⟨_, Tryz.func116, rfl, by rfl⟩⟩
instance cbody120 : CBody Tryz.prog 120 := ⟨⟨_, Tryz.func120, rfl, by rfl⟩⟩
instance cbody119 : CBody Tryz.prog 119 := ⟨⟨_, Tryz.func119, rfl, by rfl⟩⟩
instance cbody117 : CBody Tryz.prog 117 := ⟨⟨_, Tryz.func117, rfl, by rfl⟩⟩
instance cbody176 : CBody Tryz.prog 176 := ⟨⟨_, Tryz.func176, rfl, by rfl⟩⟩
instance cbody175 : CBody Tryz.prog 175 := ⟨⟨_, Tryz.func175, rfl, by rfl⟩⟩
instance cbody174 : CBody Tryz.prog 174 := ⟨⟨_, Tryz.func174, rfl, by rfl⟩⟩
instance cbody173 : CBody Tryz.prog 173 := ⟨⟨_, Tryz.func173, rfl, by rfl⟩⟩
instance cbody168 : CBody Tryz.prog 168 := ⟨⟨_, Tryz.func168, rfl, by rfl⟩⟩
instance cbody169 : CBody Tryz.prog 169 := ⟨⟨_, Tryz.func169, rfl, by rfl⟩⟩
instance cbody65 : CBody Tryz.prog 65 := ⟨⟨_, Tryz.func65, rfl, by rfl⟩⟩
instance cbody167 : CBody Tryz.prog 167 := ⟨⟨_, Tryz.func167, rfl, by rfl⟩⟩
instance cbody153 : CBody Tryz.prog 153 := ⟨⟨_, Tryz.func153, rfl, by rfl⟩⟩
instance cbody152 : CBody Tryz.prog 152 := ⟨⟨_, Tryz.func152, rfl, by rfl⟩⟩
instance cbody122 : CBody Tryz.prog 122 := ⟨⟨_, Tryz.func122, rfl, by rfl⟩⟩
instance cbody146 : CBody Tryz.prog 146 := ⟨⟨_, Tryz.func146, rfl, by rfl⟩⟩
theorem kZ4 (a : Nat) : IntKind.u32.wrap ((BitVec.ofInt IntKind.u32.bits (a : Int) &&& BitVec.ofInt IntKind.u32.bits 1).toNat : Int) = ((a % 2 : Nat) : Int) := by
 have h1 : (BitVec.ofInt 32 (a : Int) &&& BitVec.ofInt 32 1).toNat = a % 2 := by
  rw [BitVec.toNat_and, BitVec.ofInt_natCast, BitVec.toNat_ofNat, show (BitVec.ofInt 32 1).toNat = 1 by decide, Nat.and_one_is_mod]
  omega
 show IntKind.u32.wrap (((BitVec.ofInt 32 (a : Int) &&& BitVec.ofInt 32 1).toNat : Nat) : Int) = _
 rw [h1, IntKind.wrap_u32]; omega
theorem lZe {a c e : Nat} (ha : a = 2 ^ (e + 1) * c) (hlt : a + 2 ^ e < B) : IntKind.u32.wrap ((BitVec.ofInt IntKind.u32.bits (a : Int) ||| BitVec.ofInt IntKind.u32.bits ((2 ^ e : Nat) : Int)).toNat : Int) = ((a + 2 ^ e : Nat) : Int) := by
 rw [mZh] at hlt
 have hB : (2 : Nat) ^ 32 = 4294967296 := by decide
 have hp := Nat.two_pow_pos e
 have h1 : (BitVec.ofInt 32 (a : Int)).toNat = a := by rw [BitVec.ofInt_natCast, BitVec.toNat_ofNat]; exact Nat.mod_eq_of_lt (by omega)
 have h2 : (BitVec.ofInt 32 ((2 ^ e : Nat) : Int)).toNat = 2 ^ e := by rw [BitVec.ofInt_natCast, BitVec.toNat_ofNat]; exact Nat.mod_eq_of_lt (by omega)
 have h3 : a ||| 2 ^ e = a + 2 ^ e := by rw [ha, ← Nat.two_pow_add_eq_or_of_lt (Nat.pow_lt_pow_right (by decide) (Nat.lt_succ_self e))]
 show IntKind.u32.wrap (((BitVec.ofInt 32 (a : Int) ||| BitVec.ofInt 32 ((2 ^ e : Nat) : Int)).toNat : Nat) : Int) = _
 rw [BitVec.toNat_or, h1, h2, h3, IntKind.wrap_u32]
 omega
theorem dbl_len {r b k : Nat} (hb : b ≤ 1) (h : (digs r).length ≤ k) : (digs (2 * r + b)).length ≤ k + 1 := by
 refine aZ7 ?_
 have a1 := aZO r
 have a2 : B ^ (digs r).length ≤ B ^ k := Nat.pow_le_pow_right aZI h
 rw [Nat.pow_succ, aZ0] at *
 generalize 4294967296 ^ k = Z at *
 omega
section
variable (En : Ev)
theorem hZM (x k : Nat) (hk : k ≤ 1099511627776) : Fn Tryz.prog En 150 [rawM x k] (mag (digs x)) := by
 intro h w vs he hh ha
 obtain ⟨v, rfl, l, h1, h2, h3⟩ := ha.one
 subst h1
 exact iZ5 En l (by omega) h w [v] he hh ⟨h3, trivial⟩
theorem fdouble (l : List Nat) (c0 : Nat) (hl : l.length ≤ 1099511627776) (hc : c0 ≤ 1) : Fn Tryz.prog En 174 [mag l, ex (.int .u32 (c0 : Int))] (rawM (2 * val l + c0) (l.length + 1)) := by
 intro h w vs _ hh ha
 obtain ⟨v, u, rfl, hv, hu⟩ := ha.two
 have hu : u = .int .u32 (c0 : Int) := hu
 subst hu
 exact (gZw v l c0 w (cZk hh hv) hl hc).mono fun _ _ hp => dZw hh hp
theorem fcmp (l l' : List Nat) (hl : l.length ≤ 1099511627776) (hl' : l'.length ≤ 1099511627776) : Fn Tryz.prog En 117 [mag l, mag l'] (ex (.int .i64 (cmpL l l'))) := by
 intro h w vs _ hh ha
 obtain ⟨v, u, rfl, hv, hu⟩ := ha.two
 exact (hZa v u l l' w (cZk hh hv) (cZk hh hu) hl hl').mono fun _ _ ⟨he, hb⟩ => ex_fn hh he hb
theorem fdif (l l' : List Nat) (hl : l.length ≤ 1099511627776) (hl' : l'.length ≤ l.length) (hle : val l' ≤ val l) : Fn Tryz.prog En 175 [mag l, mag l'] (rawM (val l - val l') l.length) := by
 intro h w vs _ hh ha
 obtain ⟨v, u, rfl, hv, hu⟩ := ha.two
 exact (kZE v u l l' w (cZk hh hv) (cZk hh hu) hl hl' hle).mono fun _ _ hp => dZw hh hp
theorem kZs {t y : Nat} : decide (cmpL (digs t) (digs y) ≥ 0) = decide (y ≤ t) := by
 rw [bZ6]
 by_cases h : t < y
 ·rw [if_pos h, decide_eq_false (by omega), decide_eq_false (by omega)]
 ·rw [if_neg h, decide_eq_true (p := y ≤ t) (by omega)]
  split <;> rfl
set_option maxHeartbeats 2000000 in
theorem lZ3 (x y : Nat) (hx : (digs x).length ≤ 536870912) (hyl : (digs y).length ≤ 536870912) (hy : y ≠ 0) (hbig : ¬ ((digs x).length ≤ 2 ∧ (digs y).length ≤ 2)) : Fn Tryz.prog En 167 [mag (digs x), mag (digs y)] (DivP x y) := by
 unfold DivP
 have hxlt := aZO x
 have ht1 := iZ5 En (pd (x / y) (digs x).length) (by rw [aZA]; omega)
 rw [cZG _ _ (Nat.lt_of_le_of_lt (Nat.div_le_self _ _) hxlt)] at ht1
 have hpub := mZ5 (x / y) (digs x).length (digs x).length (Nat.le_refl _)
 have hgx : ∀ j, j < (digs x).length → (digs x)[j]? = some (x / B ^ j % B) := fun j hj => lZ8 hj
 have hrl : ∀ r, r < y → (digs r).length ≤ 536870912 := fun r hr => Nat.le_trans (aZG (by omega)) hyl
 have e36 : IntKind.i64.wrap (32 * ((digs x).length : Int)) = 32 * ((digs x).length : Int) := w64 (by omega) (by omega)
 have e37 : IntKind.i64.wrap (32 * ((digs x).length : Int) - 1) = ((32 * (digs x).length : Nat) : Int) - 1 := by rw [w64 (by omega) (by omega)]; omega
 refine aZb Tryz.func167 rfl Tryz.ntmps167 rfl ?_
 intro w0 h0
 repeat (first | apply js | apply jb)
 refine jr (ja jj (ja jj (jn ?_)))
 refine WpD.cut (α := Unit) (fun _ => ⟨[(0, .one (mag (digs x))), (1, .one (mag (digs y))), (4, .one (ex (.slice none 0 0))), (5, .one (ex (.slice none 0 0)))], []⟩) ?_ ?_
 ·by_cases h2 : (digs x).length ≤ 2
  ·have b1 : decide (((digs x).length : Int) ≤ 2) = true := decide_eq_true (by omega)
   have b2 : decide (((digs y).length : Int) ≤ 2) = false := decide_eq_false (by omega)
   repeat (first | apply js | apply jb)
   refine jr (jm jj (jE jj (jS (aZd jj jj (fun w => bZt w _ _ _ _ _ _) (aZm b1)) (jm jj ?_))))
   first | refine jgm jj ?_ | refine jk ?_
   first | refine jg (bZd jj CSlice.ok) ?_ | refine jk ?_
   first | refine jg (aZd jj jj (fun w => bZt w _ _ _ _ _ _) (aZm b2)) ?_ | refine jk ?_
   first | refine jq jj jj ?_ | refine jQ jj jj ?_
   refine jn ?_
   repeat (first | apply js | apply jb)
   refine WpD.condF rfl ?_
   repeat (first | apply js | apply jb)
   refine WpD.skip ?_
   refine ⟨(), ?_⟩
   refine Sub.mk ?_ ?_ <;> repeat (first | exact trivial | refine jV jj ?_ | refine jy jj ?_ | refine jw jj (js0 jj) ?_)
  ·have b1 : decide (((digs x).length : Int) ≤ 2) = false := decide_eq_false (by omega)
   repeat (first | apply js | apply jb)
   refine jr (jm jj (jE jj (jS (aZd jj jj (fun w => bZt w _ _ _ _ _ _) (aZm b1)) (jm jj ?_))))
   first | refine jgm jj ?_ | refine jk ?_
   first | refine jg (bZd jj CSlice.ok) ?_ | refine jk ?_
   first | refine jg (aZu jj jj (fun w => bZt w _ _ _ _ _ _)) ?_ | refine jk ?_
   first | refine jq jj jj ?_ | refine jQ jj jj ?_
   refine jn ?_
   repeat (first | apply js | apply jb)
   refine WpD.condF rfl ?_
   repeat (first | apply js | apply jb)
   refine WpD.skip ?_
   refine ⟨(), ?_⟩
   refine Sub.mk ?_ ?_ <;> repeat (first | exact trivial | refine jV jj ?_ | refine jy jj ?_ | refine jw jj (js0 jj) ?_)
 rintro ⟨⟩
 repeat (first | apply js | apply jb)
 refine jr (jm jj (jE jj (jT (cZL jj jj jj jj (by omega) (by omega)) (ja jj (jn ?_)))))
 repeat (first | apply js | apply jb)
 refine jr (jm jj (jE jj (jS (bMu jj jj e36) (jS (bSu jj jj e37) (ja jj (jn ?_))))))
 repeat (first | apply js | apply jb)
 refine WpD.loop (α := {i : Nat // i ≤ 32 * (digs x).length}) (fun i => ⟨[(0, .one (mag (digs x))), (1, .one (mag (digs y))), (4, .own 33 0 (digs x).length (digs x).length), (5, .one (mag (digs (x / 2 ^ i.1 % y)))), (8, .one (ex (.int .i64 ((i.1 : Int) - 1))))], [(33, (pd (QV x y i.1) (digs x).length).map lb)]⟩) (fun i => i.1) ⟨32 * (digs x).length, Nat.le_refl _⟩ ?_ ?_
 ·have hx0 : x / 2 ^ (32 * (digs x).length) = 0 := Nat.div_eq_of_lt (by rw [Nat.pow_mul]; exact hxlt)
  have hz : List.replicate (digs x).length (ex (.int .u32 0)) = (pd (QV x y (32 * (digs x).length)) (digs x).length).map lb := by
   rw [dZT]
   unfold QV
   rw [hx0, Nat.zero_div, Nat.zero_mul]
   congr 1
   refine fZp ?_ ?_ (by simp)
   ·intro z hz; rw [(List.mem_replicate.1 hz).2]; exact aZI
   ·exact gZx fun z hz => (List.mem_replicate.1 hz).2
  dsimp only
  rw [hx0, Nat.zero_mod, bZm]
  refine Sub.mk ?_ ⟨.inl ⟨_, rfl, PsLe.of_eq hz⟩, trivial⟩
  repeat (first | exact trivial | refine ⟨⟨_, rfl, rfl⟩, Option.some_ne_none _, ?_⟩ | refine ⟨⟨_, rfl, rfl⟩, Option.some_ne_none _, ?_⟩ | refine ⟨⟨_, rfl, PLe.refl _⟩, trivial, ?_⟩ | refine ⟨⟨_, rfl, eZl⟩, trivial, ?_⟩)
 rintro ⟨i, hi⟩
 dsimp only
 cases i with
 | zero =>
  have b4 : decide ((((0 : Nat) : Int) - 1) ≥ 0) = false := by decide
  rw [QV_zero, Nat.pow_zero, Nat.div_one]
  repeat (first | apply js | apply jb)
  refine jr (jm jj (jS (aZd jj jj (fun w => bZi w _ _ _ _ _ _) (aZm b4)) (jn ?_)))
  repeat (first | apply js | apply jb)
  refine WpD.condF rfl ?_
  repeat (first | apply js | apply jb)
  refine WpD.exit ?_
  refine WpD.sub (τ := ⟨[(4, .one (mag (pd (x / y) (digs x).length))), (5, .one (mag (digs (x % y))))], []⟩) ?_ ?_
  ·
   refine Sub.pub 33 rfl rfl ?_ ?_ rfl
   ·repeat (first | exact trivial | refine ⟨.inl ⟨⟨_, rfl, PLe.refl _⟩, trivial⟩, ?_⟩ | refine ⟨.inl ⟨⟨_, rfl, rfl⟩, Option.some_ne_none _⟩, ?_⟩ | refine ⟨.inl ⟨⟨_, rfl, rfl⟩, ⟨Option.some_ne_none _, Option.some_ne_none _⟩⟩, ?_⟩ | refine ⟨.inr (.inl ⟨_, _, _, _, rfl, rfl, hpub⟩), ?_⟩ | refine ⟨.inr (.inr (.inl ⟨_, _, _, rfl, rfl, hpub⟩)), ?_⟩)
   ·repeat (first | exact trivial | refine jz ?_ | refine jy rfl ?_)
  repeat (first | apply js | apply jb)
  refine jr (jm jj (jS (aZa ht1 ⟨jj, trivial⟩) (jm jj (ja jj (ja jj (jn ?_))))))
  repeat (first | apply js | apply jb)
  refine WpD.ret ?_
  exact ret2 rfl (.tmp rfl) (.tmp rfl) (PLe.refl _)
 | succ i =>
  have hj : i / 32 < (digs x).length := by omega
  have b4 : decide ((i : Int) ≥ 0) = true := decide_eq_true (by omega)
  have eq : IntKind.i64.wrap ((i : Int).tdiv 32) = ((i / 32 : Nat) : Int) := by rw [Int.tdiv_eq_ediv_of_nonneg (by omega), w64 (by omega) (by omega)]; omega
  have er : (i : Int).tmod 32 = ((i % 32 : Nat) : Int) := by rw [Int.tmod_eq_emod_of_nonneg (by omega)]; omega
  have hg := hgx _ hj
  have hm32 : i % 32 < 32 := Nat.mod_lt _ (by decide)
  have e8 := shrN (x / B ^ (i / 32) % B) (i % 32) (by omega)
  have e9 := kZ4 (x / B ^ (i / 32) % B / 2 ^ (i % 32))
  rw [lZl] at e9
  have h2 : x / 2 ^ i % 2 ≤ 1 := by omega
  have e41 : IntKind.i64.wrap ((i : Int) - 1) = (i : Int) - 1 := w64 (by omega) (by omega)
  have hry := Nat.mod_lt (x / 2 ^ (i + 1)) (Nat.pos_of_ne_zero hy)
  have hr1 := hrl _ hry
  have D1 := fdouble En (digs (x / 2 ^ (i + 1) % y)) (x / 2 ^ i % 2) (by omega) h2
  have D2 := hZM En (2 * (x / 2 ^ (i + 1) % y) + x / 2 ^ i % 2) ((digs (x / 2 ^ (i + 1) % y)).length + 1) (by omega)
  rw [aZq] at D1
  have hlo := @dv_lo x y i
  have hhi := @dv_hi x y i (Nat.pos_of_ne_zero hy)
  have htl := dbl_len h2 hr1
  generalize htt : 2 * (x / 2 ^ (i + 1) % y) + x / 2 ^ i % 2 = t at *
  have D3 := fcmp En (digs t) (digs y) (by omega) (by omega)
  rw [show (((i + 1 : Nat) : Int) - 1) = (i : Int) by omega]
  by_cases hty : y ≤ t
  ·have b5 : decide (cmpL (digs t) (digs y) ≥ 0) = true := by rw [kZs]; exact decide_eq_true hty
   obtain ⟨f1, f2⟩ := hhi hty
   have D4 := fdif En (digs t) (digs y) (by omega) (aZG hty) (by rw [aZq, aZq]; exact hty)
   rw [aZq, aZq] at D4
   have D5 := hZM En (t - y) (digs t).length (by omega)
   have hd := QV_dvd x y (i + 1)
   have hV : QV x y (i + 1) < B ^ (digs x).length := Nat.lt_of_le_of_lt (QV_le _ _ _) hxlt
   obtain ⟨c', hc', hfree⟩ := gZd hd
   have hset0 := pd_or hj hd hV
   have hgq := hZy (QV x y (i + 1)) (digs x).length (i / 32) hj
   rw [← f2] at hset0
   generalize QV x y (i + 1) / B ^ (i / 32) % B = a at *
   have hgq' : ((pd (QV x y (i + 1)) (digs x).length).map lb)[i / 32]? = some (lb a) := by rw [List.getElem?_map, hgq]; rfl
   have hsl : i / 32 < ((pd (QV x y (i + 1)) (digs x).length).map lb).length := by rw [List.length_map, aZA]; exact hj
   have hset : ((pd (QV x y (i + 1)) (digs x).length).map lb).set (i / 32) (ex (.int .u32 ((a + 2 ^ (i % 32) : Nat) : Int))) = (pd (QV x y i) (digs x).length).map lb := by
    rw [← hset0, List.map_set]; rfl
   have e69 : IntKind.u32.wrap (1 * 2 ^ (min ((i % 32 : Nat) : Int).toNat IntKind.u32.bits)) = ((2 ^ (i % 32) : Nat) : Int) := by
    rw [Int.toNat_natCast, show min (i % 32) IntKind.u32.bits = i % 32 from Nat.min_eq_left (by show i % 32 ≤ 32; omega), Int.one_mul]
    have hp := Nat.two_pow_pos (i % 32)
    rw [show ((2 : Int) ^ (i % 32)) = ((2 ^ (i % 32) : Nat) : Int) by norm_cast, IntKind.wrap_u32]
    rw [aZ0] at hfree
    generalize 2 ^ (i % 32) = z at *
    omega
   have e70 := lZe hc' hfree
   repeat (first | apply js | apply jb)
   refine jr (jm jj (jS (aZd jj jj (fun w => bZi w _ _ _ _ _ _) (aZm b4)) (jn ?_)))
   repeat (first | apply js | apply jb)
   refine WpD.condT rfl ?_
   repeat (first | apply js | apply jb)
   refine WpD.skip ?_
   repeat (first | apply js | apply jb)
   refine jr (jm jj (jm jj (jm jj (jS (bQu jj jj eq) (jS (aZv jj jj (by assumption)) (jS (aZf jj jj) (jm jj (jS (bRe jj jj er) (jS (aZd jj jj (fun w => aZ5 w _ _ _ _ _ _ _ (by first | decide | omega | assumption)) (vint e8)) (jS (aZd jj jj (fun w => dZJ w _ _ _ _ _ _) (vint e9)) (jS (aZa D1 ⟨jj, jj, trivial⟩) (jS (aZa D2 ⟨jj, trivial⟩) (ja jj (jn ?_))))))))))))))
   repeat (first | apply js | apply jb)
   refine jr (jm jj (jm jj (jS (aZa D3 ⟨jj, jj, trivial⟩) (jS (aZd jj jj (fun w => bZi w _ _ _ _ _ _) (aZm b5)) (jn ?_)))))
   repeat (first | apply js | apply jb)
   refine WpD.condT rfl ?_
   repeat (first | apply js | apply jb)
   refine jr (jm jj (jm jj (jS (aZa D4 ⟨jj, jj, trivial⟩) (jS (aZa D5 ⟨jj, trivial⟩) (ja jj (jn ?_))))))
   repeat (first | apply js | apply jb)
   refine jr (jm jj (jm jj (jS (bQu jj jj eq) (jS (aZ8 jj jj (by first | assumption | omega)) (jS (aZt jj jj (by assumption)) (jm jj (jS (bRe jj jj er) (jS (aZd jj jj (fun w => bZ9 w _ _ _ _ _ _ _ (by first | decide | omega | assumption)) (vint e69)) (jS (aZd jj jj (fun w => cZo w _ _ _ _ _ _) (vint e70)) (jS (aZ8 jj jj (by first | assumption | omega)) (jO (aZz jj jj jj (by assumption) (by assumption)) (jn ?_))))))))))))
   repeat (first | apply js | apply jb)
   refine jr (jm jj (jS (bSu jj jj e41) (ja jj (jn ?_))))
   refine ⟨⟨i, by omega⟩, ?_, Nat.lt_succ_self i⟩
   dsimp only
   rw [f1]
   refine Sub.mk ?_ ?_ <;> repeat (first | exact trivial | refine jV jj ?_ | refine jy jj ?_ | refine jw jj (js0 jj) ?_)
  ·have b5 : decide (cmpL (digs t) (digs y) ≥ 0) = false := by rw [kZs]; exact decide_eq_false hty
   obtain ⟨f1, f2⟩ := hlo (by omega)
   repeat (first | apply js | apply jb)
   refine jr (jm jj (jS (aZd jj jj (fun w => bZi w _ _ _ _ _ _) (aZm b4)) (jn ?_)))
   repeat (first | apply js | apply jb)
   refine WpD.condT rfl ?_
   repeat (first | apply js | apply jb)
   refine WpD.skip ?_
   repeat (first | apply js | apply jb)
   refine jr (jm jj (jm jj (jm jj (jS (bQu jj jj eq) (jS (aZv jj jj (by assumption)) (jS (aZf jj jj) (jm jj (jS (bRe jj jj er) (jS (aZd jj jj (fun w => aZ5 w _ _ _ _ _ _ _ (by first | decide | omega | assumption)) (vint e8)) (jS (aZd jj jj (fun w => dZJ w _ _ _ _ _ _) (vint e9)) (jS (aZa D1 ⟨jj, jj, trivial⟩) (jS (aZa D2 ⟨jj, trivial⟩) (ja jj (jn ?_))))))))))))))
   repeat (first | apply js | apply jb)
   refine jr (jm jj (jm jj (jS (aZa D3 ⟨jj, jj, trivial⟩) (jS (aZd jj jj (fun w => bZi w _ _ _ _ _ _) (aZm b5)) (jn ?_)))))
   repeat (first | apply js | apply jb)
   refine WpD.condF rfl ?_
   repeat (first | apply js | apply jb)
   refine WpD.skip ?_
   repeat (first | apply js | apply jb)
   refine jr (jm jj (jS (bSu jj jj e41) (ja jj (jn ?_))))
   refine ⟨⟨i, by omega⟩, ?_, Nat.lt_succ_self i⟩
   dsimp only
   rw [f1, f2]
   refine Sub.mk ?_ ?_ <;> repeat (first | exact trivial | refine jV jj ?_ | refine jy jj ?_ | refine jw jj (js0 jj) ?_)
theorem lZ2 (x y : Nat) (hx : (digs x).length ≤ 536870912) (hyl : (digs y).length ≤ 536870912) (hy : y ≠ 0) : Fn Tryz.prog En 167 [mag (digs x), mag (digs y)] (DivP x y) := by
 by_cases h : (digs x).length ≤ 2 ∧ (digs y).length ≤ 2
 ·exact fdivide En x y (fZa x y hy h.1 h.2)
 ·exact lZ3 En x y hx hyl hy h
end
end Go.Proofs.YtdieokoenhncfaaGreatDoor

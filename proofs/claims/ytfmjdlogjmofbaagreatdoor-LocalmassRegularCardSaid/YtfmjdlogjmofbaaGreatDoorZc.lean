/- Integers of the program: build, Small, Sign, Int64, Mul, DivMod. -/
import Derived.Test.YtfmjdlogjmofbaaGreatDoorMem
import Derived.Test.YtfmjdlogjmofbaaGreatDoorO
import Derived.Test.YtfmjdlogjmofbaaGreatDoorZa
import Derived.Test.YtfmjdlogjmofbaaGreatDoorL
import Derived.Test.YtfmjdlogjmofbaaGreatDoorW
set_option maxRecDepth 3000
namespace Go.Proofs.YtfmjdlogjmofbaaGreatDoor
section
open Go.RowKit Limb
instance : CRow Tryz.prog 32 2 := ⟨⟨_, Tryz.underlying32, rfl, by kernel_rfl⟩⟩
instance : CField Tryz.prog 32 0 0 := ⟨⟨_, _, Tryz.underlying32, rfl, rfl, by kernel_rfl⟩⟩
instance : CField Tryz.prog 32 1 1 := ⟨⟨_, _, Tryz.underlying32, rfl, rfl, by kernel_rfl⟩⟩
instance : CFieldT Tryz.prog 32 0 0 4 := ⟨⟨_, _, Tryz.underlying32, rfl, rfl, rfl⟩⟩
instance : CFieldT Tryz.prog 32 1 1 30 := ⟨⟨_, _, Tryz.underlying32, rfl, rfl, rfl⟩⟩
theorem jZg : cZw Tryz.prog 32 [.bool false, .slice none 0 0] := ⟨by kernel_rfl, by simp [Value.oneCell']⟩
instance : CZero Tryz.prog 32 [.bool false, .slice none 0 0] := ⟨jZg⟩
instance : CStruct Tryz.prog 32 [(0, 1), (1, 1)] [.bool false, .slice none 0 0] := ⟨⟨jZg, _, Tryz.underlying32, fun _ => by kernel_rfl⟩⟩
instance cbody96 : CBody Tryz.prog 96 := ⟨⟨_, Tryz.func96, rfl, by rfl⟩⟩
instance cbody73 : CBody Tryz.prog 73 := ⟨⟨_, Tryz.func73, rfl, by rfl⟩⟩
instance cbody40 : CBody Tryz.prog 40 := ⟨⟨_, Tryz.func40, rfl, by rfl⟩⟩
instance cbody39 : CBody Tryz.prog 39 := ⟨⟨_, Tryz.func39, rfl, by rfl⟩⟩
instance cbody132 : CBody Tryz.prog 132 := ⟨⟨_, Tryz.func132, rfl, by rfl⟩⟩
section
variable (En : Ev)
theorem cZ4 (s : Bool) (n : Nat) : Fn Tryz.prog En 96 [ex (.bool s), mag (digs n)] (zC (sgnZ s n)) := by
 have hb := fZ6 n
 by_cases hn : n = 0
 ·subst hn
  have e : sgnZ s 0 = 0 := by unfold sgnZ; cases s <;> rfl
  rw [e]
  rw [decide_eq_true rfl] at hb
  refine aZb Tryz.func96 rfl Tryz.ntmps96 rfl ?_
  intro w0 h0
  refine kO ?_
  refine jr<|jA jj jj jj<|jn ?_
  refine kO ?_
  refine jr<|jm jj<|jE jj<|jS (bVq jj jj hb)<|jn ?_
  refine kO ?_
  refine WpD.condT rfl ?_
  refine kO ?_
  refine jr<|jS (aZj (ps := []) trivial jj)<|jP jj jj jj jj<|jn ?_
  refine kO ?_
  refine WpD.ret ?_
  exact ret1 rfl (.cell rfl rfl CRow.ok rfl) lZl
 ·rw [decide_eq_false hn] at hb
  rw [zC_sgn hn]
  refine aZb Tryz.func96 rfl Tryz.ntmps96 rfl ?_
  intro w0 h0
  refine kO ?_
  refine jr<|jA jj jj jj<|jn ?_
  refine kO ?_
  refine jr<|jm jj<|jE jj<|jS (bVq jj jj hb)<|jn ?_
  refine kO ?_
  refine WpD.condF rfl ?_
  refine kO ?_
  refine WpD.skip ?_
  refine kO ?_
  refine jr<|jm jj<|jm jj<|jS (aZj (ps := [(_, _), (_, _)]) ⟨jj, Part.c jj, jj, Part.c jj, trivial⟩ jj)<|jP jj jj jj jj<|jn ?_
  refine kO ?_
  refine WpD.ret ?_
  exact rtC rfl jj jj
theorem qZy (n : Int) (h1 : -9223372036854775808 ≤ n) (h2 : n ≤ 9223372036854775807) : Fn Tryz.prog En 73 [ex (.int .i64 n)] (zC n) := by
 by_cases hn : n < 0
 ·have b1 : decide (n < 0) = true := decide_eq_true hn
  have e1 : IntKind.u64.wrap n = n + 18446744073709551616 := by rw [IntKind.wrap_u64]; omega
  have e2 : IntKind.u64.wrap (-(n + 18446744073709551616)) = (n.natAbs : Int) := by rw [IntKind.wrap_u64]; omega
  have C1 := cZs En n.natAbs oM
  have C2 := cZ4 En true n.natAbs
  rw [show sgnZ true n.natAbs = n by unfold sgnZ; simp; omega] at C2
  refine aZb Tryz.func73 rfl Tryz.ntmps73 rfl ?_
  intro w0 h0
  refine kO ?_
  refine jr<|jA jj jj jj<|jn ?_
  refine kO ?_
  refine jr<|jm jj<|jS (bVl jj jj b1)<|jn ?_
  refine kO ?_
  refine WpD.condT rfl ?_
  refine kO ?_
  refine jr<|jm jj<|jS (bCv jj e1)<|jS (cZS jj (fun w => cZ0 w _ _) (vint e2))<|jS (aZa C1 tA)<|jS (aZa C2 tB)<|jP jj jj jj jj<|jn ?_
  refine kO ?_
  refine WpD.ret ?_
  exact rtC rfl jj jj
 ·have b1 : decide (n < 0) = false := decide_eq_false hn
  have e1 : IntKind.u64.wrap n = (n.natAbs : Int) := by rw [IntKind.wrap_u64]; omega
  have C1 := cZs En n.natAbs oM
  have C2 := cZ4 En false n.natAbs
  rw [show sgnZ false n.natAbs = n by unfold sgnZ; simp; omega] at C2
  refine aZb Tryz.func73 rfl Tryz.ntmps73 rfl ?_
  intro w0 h0
  refine kO ?_
  refine jr<|jA jj jj jj<|jn ?_
  refine kO ?_
  refine jr<|jm jj<|jS (bVl jj jj b1)<|jn ?_
  refine kO ?_
  refine WpD.condF rfl ?_
  refine kO ?_
  refine WpD.skip ?_
  refine kO ?_
  refine jr<|jm jj<|jS (bCv jj e1)<|jS (aZa C1 tA)<|jS (aZa C2 tB)<|jP jj jj jj jj<|jn ?_
  refine kO ?_
  refine WpD.ret ?_
  exact rtC rfl jj jj
theorem iZH (s : Bool) (l : List Nat) (hl : Lm l) (hlen : l.length ≤ 1099511627776) : Fn Tryz.prog En 40 [zR s l] (ex (.int .i64 (sg3 (zv s l)))) := by
 have C1 := cZx En l hl hlen
 unfold zv
 generalize val l = n at *
 have hb := fZ6 n
 by_cases hn : n = 0
 ·subst hn
  rw [decide_eq_true rfl] at hb
  rw [show sg3 (sgnZ s 0) = 0 by cases s <;> rfl]
  refine aZb Tryz.func40 rfl Tryz.ntmps40 rfl ?_
  intro w0 h0
  refine kO ?_
  refine jr<|jB jj jj jj<|ja jj<|jn ?_
  refine kO ?_
  refine jr<|jF jj jj<|jl jj jj jj<|jS (aZa C1 tA)<|jE jj<|jS (bVq jj jj hb)<|ja jj<|jn ?_
  refine kO ?_
  refine WpD.condT rfl ?_
  refine kO ?_
  refine jr<|ja jj<|jn ?_
  refine kO ?_
  refine WpD.ret ?_
  exact rtT rfl jj
 ·rw [decide_eq_false hn] at hb
  cases s with
  | true =>
   rw [show sg3 (sgnZ true n) = -1 by unfold sg3 sgnZ; simp; omega]
   refine aZb Tryz.func40 rfl Tryz.ntmps40 rfl ?_
   intro w0 h0
   refine kO ?_
   refine jr<|jB jj jj jj<|ja jj<|jn ?_
   refine kO ?_
   refine jr<|jF jj jj<|jl jj jj jj<|jS (aZa C1 tA)<|jE jj<|jS (bVq jj jj hb)<|ja jj<|jn ?_
   refine kO ?_
   refine WpD.condF rfl ?_
   refine kO ?_
   refine jr<|jF jj jj<|jl jj jj jj<|ja jj<|jn ?_
   refine kO ?_
   refine WpD.condT rfl ?_
   refine kO ?_
   refine jr<|ja jj<|jn ?_
   refine kO ?_
   refine WpD.ret ?_
   exact rtT rfl jj
  | false =>
   rw [show sg3 (sgnZ false n) = 1 by unfold sg3 sgnZ; simp; omega]
   refine aZb Tryz.func40 rfl Tryz.ntmps40 rfl ?_
   intro w0 h0
   refine kO ?_
   refine jr<|jB jj jj jj<|ja jj<|jn ?_
   refine kO ?_
   refine jr<|jF jj jj<|jl jj jj jj<|jS (aZa C1 tA)<|jE jj<|jS (bVq jj jj hb)<|ja jj<|jn ?_
   refine kO ?_
   refine WpD.condF rfl ?_
   refine kO ?_
   refine jr<|jF jj jj<|jl jj jj jj<|ja jj<|jn ?_
   refine kO ?_
   refine WpD.condF rfl ?_
   refine kO ?_
   refine WpD.skip ?_
   refine kO ?_
   refine jr<|ja jj<|jn ?_
   refine kO ?_
   refine WpD.ret ?_
   exact rtT rfl jj
theorem imul (s : Bool) (l : List Nat) (s' : Bool) (l' : List Nat) (hl : Lm l) (hl' : Lm l') (hlen : l.length ≤ 274877906944) (hlen' : l'.length ≤ 274877906944) :
  Fn Tryz.prog En 39 [zR s l, zR s' l'] (zC (zv s l * zv s' l')) := by
 have C1 := cZx En l hl oM
 have C2 := cZx En l' hl' oM
 have D1 := aZW hlen hl
 have D2 := aZW hlen' hl'
 unfold zv
 rw [jZp]
 generalize val l = x at *
 generalize val l' = y at *
 have C3 := nmul En (digs x) (digs y) D1 D2 (aZg _) (aZg _)
 rw [aZi, aZi] at C3
 have C4 := cZ4 En (s != s') (x * y)
 refine aZb Tryz.func39 rfl Tryz.ntmps39 rfl ?_
 intro w0 h0
 refine kO ?_
 refine jr<|jB jj jj jj<|jB jj jj jj<|jA jj jj jj<|jn ?_
 refine kO ?_
 refine jr<|jF jj jj<|jl jj jj jj<|jF jj jj<|jl jj jj jj<|jS (aZ6 jj jj (fun w => iZy w CBool.ok _ _ _ _))<|jF jj jj<|jl jj jj jj<|jS (aZa C1 tA)<|jF jj jj<|jl jj jj jj<|jS (aZa C2 tA)<|jS (aZa C3 tB)<|jS (aZa C4 tB)<|jP jj jj jj jj<|jn ?_
 refine kO ?_
 refine WpD.ret ?_
 exact rtC rfl jj jj
set_option maxHeartbeats 1000000 in
theorem mZK (s : Bool) (l : List Nat) (s' : Bool) (l' : List Nat) (hl : Lm l) (hl' : Lm l') (hlen : l.length ≤ 274877906944) (hlen' : l'.length ≤ 274877906944) (hy : zv s' l' ≠ 0) :
  Fn Tryz.prog En 132 [zR s l, zR s' l'] (tupP [zC (zv s l / zv s' l'), zC (zv s l % zv s' l'), ex (.bool true)]) := by
 have C1 := cZx En l' hl' oM
 have C2 := cZx En l hl oM
 have D1 := aZW hlen hl
 have D2 := aZW hlen' hl'
 unfold zv at hy ⊢
 generalize val l = x at *
 generalize val l' = y at *
 have hy0 : y ≠ 0 := by rintro rfl; apply hy; cases s' <;> rfl
 have C3 := ndiv En x y oM hy0
 unfold DivP at C3
 have b1 := fZ6 y
 rw [decide_eq_false hy0] at b1
 have Q1 : (digs (x / y)).length ≤ 274877906944 := Nat.le_trans (aZS (Nat.div_le_self _ _)) D1
 have hlt := Nat.mod_lt x (Nat.pos_of_ne_zero hy0)
 have C5 := cZ4 En false (x % y)
 have e5 : sgnZ false (x % y) = ((x % y : Nat) : Int) := rfl
 rw [e5] at C5
 cases s with
 | false =>
  have C4 := cZ4 En s' (x / y)
  obtain ⟨e1, e2⟩ := pZV (s := false) (s' := s') hy0 (.inl rfl)
  rw [e1, e2, Bool.false_bne]
  refine aZb Tryz.func132 rfl Tryz.ntmps132 rfl ?_
  intro w0 h0
  refine kO ?_
  refine jr<|jB jj jj jj<|jB jj jj jj<|jA jj jj jj<|jA jj jj jj<|ja jj<|jn ?_
  refine kO ?_
  refine jr<|jF jj jj<|jl jj jj jj<|jS (aZa C1 tA)<|ja jj<|jn ?_
  refine kO ?_
  refine jr<|jm jj<|jE jj<|jS (bVq jj jj b1)<|jn ?_
  refine kO ?_
  refine WpD.condF rfl ?_
  refine kO ?_
  refine WpD.skip ?_
  refine kO ?_
  refine jr<|jF jj jj<|jl jj jj jj<|jS (aZa C2 tA)<|jm jj<|jS (aZa C3 tB)<|jm jj<|jx' jj jj<|jx' jj jj<|ja jj<|ja jj<|jn ?_
  refine kO ?_
  refine jr<|jF jj jj<|jl jj jj jj<|ja jj<|jn ?_
  refine kO ?_
  refine jr<|jF jj jj<|jl jj jj jj<|jm jj ?_
  first | refine jgm jj ?_ | refine jk ?_
  first | refine jg (bZo jj CSlice.ok) ?_ | refine jk ?_
  first | refine jg (aZ6 jj jj (fun w => dZB w _ _ _ _ _ _)) ?_ | refine jk ?_
  first | refine jq jj jj ?_ | refine jQ jj jj ?_
  refine ja jj<|jn ?_
  refine kO ?_
  refine WpD.condF rfl ?_
  refine kO ?_
  refine WpD.skip ?_
  refine kO ?_
  refine jr<|jF jj jj<|jl jj jj jj<|ja jj<|jn ?_
  refine kO ?_
  refine WpD.condF rfl ?_
  refine kO ?_
  refine WpD.skip ?_
  refine kO ?_
  refine WpD.exit ?_
  refine kO ?_
  refine jr<|jm jj<|jm jj<|jS (aZa C4 tB)<|jm jj<|jS (aZa C5 tB)<|jP jj jj jj jj<|jP jj jj jj jj<|ja jj<|jn ?_
  refine kO ?_
  refine WpD.ret ?_
  exact ret3 rfl (.cell rfl rfl CRow.ok rfl) (.cell rfl rfl CRow.ok rfl) (.tmp rfl) (PLe.refl _)
 | true =>
  by_cases hr : x % y = 0
  ·have b2 : decide (((digs (x % y)).length : Int) > 0) = false := by rw [hr]; rfl
   have C4 := cZ4 En (!s') (x / y)
   obtain ⟨e1, e2⟩ := pZV (s := true) (s' := s') hy0 (.inr hr)
   rw [e1, e2, Bool.true_bne]
   refine aZb Tryz.func132 rfl Tryz.ntmps132 rfl ?_
   intro w0 h0
   refine kO ?_
   refine jr<|jB jj jj jj<|jB jj jj jj<|jA jj jj jj<|jA jj jj jj<|ja jj<|jn ?_
   refine kO ?_
   refine jr<|jF jj jj<|jl jj jj jj<|jS (aZa C1 tA)<|ja jj<|jn ?_
   refine kO ?_
   refine jr<|jm jj<|jE jj<|jS (bVq jj jj b1)<|jn ?_
   refine kO ?_
   refine WpD.condF rfl ?_
   refine kO ?_
   refine WpD.skip ?_
   refine kO ?_
   refine jr<|jF jj jj<|jl jj jj jj<|jS (aZa C2 tA)<|jm jj<|jS (aZa C3 tB)<|jm jj<|jx' jj jj<|jx' jj jj<|ja jj<|ja jj<|jn ?_
   refine kO ?_
   refine jr<|jF jj jj<|jl jj jj jj<|ja jj<|jn ?_
   refine kO ?_
   refine jr<|jF jj jj<|jl jj jj jj<|jm jj ?_
   first | refine jgm jj ?_ | refine jk ?_
   first | refine jg (bZo jj CSlice.ok) ?_ | refine jk ?_
   first | refine jg (bVg jj jj b2) ?_ | refine jk ?_
   first | refine jq jj jj ?_ | refine jQ jj jj ?_
   refine ja jj<|jn ?_
   refine kO ?_
   refine WpD.condF rfl ?_
   refine kO ?_
   refine WpD.skip ?_
   refine kO ?_
   refine jr<|jF jj jj<|jl jj jj jj<|ja jj<|jn ?_
   refine kO ?_
   refine WpD.condT rfl ?_
   refine kO ?_
   refine WpD.exit ?_
   refine kO ?_
   refine jr<|jm jj<|jS (bNo jj)<|ja jj<|jn ?_
   refine kO ?_
   refine WpD.exit ?_
   refine kO ?_
   refine jr<|jm jj<|jm jj<|jS (aZa C4 tB)<|jm jj<|jS (aZa C5 tB)<|jP jj jj jj jj<|jP jj jj jj jj<|ja jj<|jn ?_
   refine kO ?_
   refine WpD.ret ?_
   exact ret3 rfl (.cell rfl rfl CRow.ok rfl) (.cell rfl rfl CRow.ok rfl) (.tmp rfl) (PLe.refl _)
  ·have b2 : decide (((digs (x % y)).length : Int) > 0) = true := by rw [aZR hr]; simp
   have hlm1 : Lm [1] := Lm.cons (by rw [aZv]; omega) Lm.nil
   have C6 := nadd En (digs (x / y)) [1] oM (by simp) (aZg _) hlm1
   rw [aZi, show val [1] = 1 by rfl] at C6
   have C7 := nsub En (digs y) (digs (x % y)) oM (aZS oM) (aZg _) (aZg _) (by rw [aZi, aZi]; omega)
   rw [aZi, aZi] at C7
   have C4 := cZ4 En (!s') (x / y + 1)
   have C8 := cZ4 En false (y - x % y)
   rw [show sgnZ false (y - x % y) = ((y - x % y : Nat) : Int) from rfl] at C8
   obtain ⟨e1, e2⟩ := oZd (s' := s') hy0 hr
   rw [e1, e2]
   refine aZb Tryz.func132 rfl Tryz.ntmps132 rfl ?_
   intro w0 h0
   refine kO ?_
   refine jr<|jB jj jj jj<|jB jj jj jj<|jA jj jj jj<|jA jj jj jj<|ja jj<|jn ?_
   refine kO ?_
   refine jr<|jF jj jj<|jl jj jj jj<|jS (aZa C1 tA)<|ja jj<|jn ?_
   refine kO ?_
   refine jr<|jm jj<|jE jj<|jS (bVq jj jj b1)<|jn ?_
   refine kO ?_
   refine WpD.condF rfl ?_
   refine kO ?_
   refine WpD.skip ?_
   refine kO ?_
   refine jr<|jF jj jj<|jl jj jj jj<|jS (aZa C2 tA)<|jm jj<|jS (aZa C3 tB)<|jm jj<|jx' jj jj<|jx' jj jj<|ja jj<|ja jj<|jn ?_
   refine kO ?_
   refine jr<|jF jj jj<|jl jj jj jj<|ja jj<|jn ?_
   refine kO ?_
   refine jr<|jF jj jj<|jl jj jj jj<|jm jj ?_
   first | refine jgm jj ?_ | refine jk ?_
   first | refine jg (bZo jj CSlice.ok) ?_ | refine jk ?_
   first | refine jg (bVg jj jj b2) ?_ | refine jk ?_
   first | refine jq jj jj ?_ | refine jQ jj jj ?_
   refine ja jj<|jn ?_
   refine kO ?_
   refine WpD.condT rfl ?_
   refine kO ?_
   refine WpD.exit ?_
   refine kO ?_
   refine jr<|jm jj<|jS (hZ3 (l := [1]) tB jj jj jj hlm1)<|jS (aZa C6 tB)<|ja jj<|jn ?_
   refine kO ?_
   refine jr<|jm jj<|jm jj<|jS (aZa C7 tB)<|ja jj<|jn ?_
   refine kO ?_
   refine jr<|jm jj<|jS (bNo jj)<|ja jj<|jn ?_
   refine kO ?_
   refine WpD.exit ?_
   refine kO ?_
   refine jr<|jm jj<|jm jj<|jS (aZa C4 tB)<|jm jj<|jS (aZa C8 tB)<|jP jj jj jj jj<|jP jj jj jj jj<|ja jj<|jn ?_
   refine kO ?_
   refine WpD.ret ?_
   exact ret3 rfl (.cell rfl rfl CRow.ok rfl) (.cell rfl rfl CRow.ok rfl) (.tmp rfl) (PLe.refl _)
end
end
section
open Go.RowKit Limb
instance cbody60 : CBody Tryz.prog 60 := ⟨⟨_, Tryz.func60, rfl, by rfl⟩⟩
instance cbody123 : CBody Tryz.prog 123 := ⟨⟨_, Tryz.func123, rfl, by rfl⟩⟩
instance cbody103 : CBody Tryz.prog 103 := ⟨⟨_, Tryz.func103, rfl, by rfl⟩⟩
instance cbody45 : CBody Tryz.prog 45 := ⟨⟨_, Tryz.func45, rfl, by rfl⟩⟩
instance cbody66 : CBody Tryz.prog 66 := ⟨⟨_, Tryz.func66, rfl, by rfl⟩⟩
instance cbody62 : CBody Tryz.prog 62 := ⟨⟨_, Tryz.func62, rfl, by rfl⟩⟩
instance cbody153 : CBody Tryz.prog 153 := ⟨⟨_, Tryz.func153, rfl, by rfl⟩⟩
instance cbody162 : CBody Tryz.prog 162 := ⟨⟨_, Tryz.func162, rfl, by rfl⟩⟩
instance cbody163 : CBody Tryz.prog 163 := ⟨⟨_, Tryz.func163, rfl, by rfl⟩⟩
instance cbody180 : CBody Tryz.prog 180 := ⟨⟨_, Tryz.func180, rfl, by rfl⟩⟩
instance cbody61 : CBody Tryz.prog 61 := ⟨⟨_, Tryz.func61, rfl, by rfl⟩⟩
instance cbody122 : CBody Tryz.prog 122 := ⟨⟨_, Tryz.func122, rfl, by rfl⟩⟩
instance cbody64 : CBody Tryz.prog 64 := ⟨⟨_, Tryz.func64, rfl, by rfl⟩⟩
instance cbody161 : CBody Tryz.prog 161 := ⟨⟨_, Tryz.func161, rfl, by rfl⟩⟩
instance cbody121 : CBody Tryz.prog 121 := ⟨⟨_, Tryz.func121, rfl, by rfl⟩⟩
instance cbody152 : CBody Tryz.prog 152 := ⟨⟨_, Tryz.func152, rfl, by rfl⟩⟩
instance cbody63 : CBody Tryz.prog 63 := ⟨⟨_, Tryz.func63, rfl, by rfl⟩⟩
instance cbody108 : CBody Tryz.prog 108 := ⟨⟨_, Tryz.func108, rfl, by rfl⟩⟩
instance cbody20 : CBody Tryz.prog 20 := ⟨⟨_, Tryz.func20, rfl, by rfl⟩⟩
theorem nZy (a : Nat) : IntKind.u32.wrap ((BitVec.ofInt IntKind.u32.bits (a : Int) &&& BitVec.ofInt IntKind.u32.bits 1).toNat : Int) = ((a % 2 : Nat) : Int) := by
 have h1 : (BitVec.ofInt 32 (a : Int) &&& BitVec.ofInt 32 1).toNat = a % 2 := by
  rw [BitVec.toNat_and, BitVec.ofInt_natCast, BitVec.toNat_ofNat, show (BitVec.ofInt 32 1).toNat = 1 by decide, Nat.and_one_is_mod]
  omega
 show IntKind.u32.wrap (((BitVec.ofInt 32 (a : Int) &&& BitVec.ofInt 32 1).toNat : Nat) : Int) = _
 rw [h1, IntKind.wrap_u32]; omega
theorem oZy {a c e : Nat} (ha : a = 2 ^ (e + 1) * c) (hlt : a + 2 ^ e < B) : IntKind.u32.wrap ((BitVec.ofInt IntKind.u32.bits (a : Int) ||| BitVec.ofInt IntKind.u32.bits ((2 ^ e : Nat) : Int)).toNat : Int) = ((a + 2 ^ e : Nat) : Int) := by
 rw [pZI] at hlt
 have hB : (2 : Nat) ^ 32 = 4294967296 := by decide
 have hp := Nat.two_pow_pos e
 have h1 : (BitVec.ofInt 32 (a : Int)).toNat = a := by rw [BitVec.ofInt_natCast, BitVec.toNat_ofNat]; exact Nat.mod_eq_of_lt oM
 have h2 : (BitVec.ofInt 32 ((2 ^ e : Nat) : Int)).toNat = 2 ^ e := by rw [BitVec.ofInt_natCast, BitVec.toNat_ofNat]; exact Nat.mod_eq_of_lt oM
 have h3 : a ||| 2 ^ e = a + 2 ^ e := by rw [ha, ← Nat.two_pow_add_eq_or_of_lt (Nat.pow_lt_pow_right aD (Nat.lt_succ_self e))]
 show IntKind.u32.wrap (((BitVec.ofInt 32 (a : Int) ||| BitVec.ofInt 32 ((2 ^ e : Nat) : Int)).toNat : Nat) : Int) = _
 rw [BitVec.toNat_or, h1, h2, h3, IntKind.wrap_u32]
 omega
theorem dbl_len {r b k : Nat} (hb : b ≤ 1) (h : (digs r).length ≤ k) : (digs (2 * r + b)).length ≤ k + 1 := by
 refine aZw ?_
 have a1 := aZV r
 have a2 : B ^ (digs r).length ≤ B ^ k := Nat.pow_le_pow_right aZY h
 rw [Nat.pow_succ, aZv] at *
 generalize 4294967296 ^ k = Z at *
 omega
section
variable (En : Ev)
theorem kZg (x k : Nat) (hk : k ≤ 1099511627776) : Fn Tryz.prog En 60 [rawM x k] (mag (digs x)) := by
 intro h w vs he hh ha
 obtain ⟨v, rfl, l, h1, h2, h3⟩ := ha.one
 subst h1
 exact fZI En l oM h w [v] he hh ⟨h3, trivial⟩
theorem fdouble (l : List Nat) (c0 : Nat) (hl : l.length ≤ 1099511627776) (hc : c0 ≤ 1) : Fn Tryz.prog En 180 [mag l, ex (.int .u32 (c0 : Int))] (rawM (2 * val l + c0) (l.length + 1)) := by
 intro h w vs _ hh ha
 obtain ⟨v, u, rfl, hv, hu⟩ := ha.two
 have hu : u = .int .u32 (c0 : Int) := hu
 subst hu
 exact (iZp v l c0 w (cZJ hh hv) hl hc).mono fun _ _ hp => eZs hh hp
theorem fcmp (l l' : List Nat) (hl : l.length ≤ 1099511627776) (hl' : l'.length ≤ 1099511627776) : Fn Tryz.prog En 153 [mag l, mag l'] (ex (.int .i64 (cmpL l l'))) := by
 intro h w vs _ hh ha
 obtain ⟨v, u, rfl, hv, hu⟩ := ha.two
 exact (nZP v u l l' w (cZJ hh hv) (cZJ hh hu) hl hl').mono fun _ _ ⟨he, hb⟩ => ex_fn hh he hb
theorem fdif (l l' : List Nat) (hl : l.length ≤ 1099511627776) (hl' : l'.length ≤ l.length) (hle : val l' ≤ val l) : Fn Tryz.prog En 163 [mag l, mag l'] (rawM (val l - val l') l.length) := by
 intro h w vs _ hh ha
 obtain ⟨v, u, rfl, hv, hu⟩ := ha.two
 exact (nZO v u l l' w (cZJ hh hv) (cZJ hh hu) hl hl' hle).mono fun _ _ hp => eZs hh hp
theorem flow (l : List Nat) (hl : l.length ≤ 2) : Fn Tryz.prog En 61 [mag l] (ex (.int .u64 ((val l : Nat) : Int))) := by
 intro h w vs _ hh ha
 obtain ⟨v, rfl, hv⟩ := ha.one
 refine (gZt v l w (cZJ hh hv) hl).mono ?_
 rintro e w' ⟨rfl, rfl⟩
 exact bZR hh (Below.refl _ _) rfl
theorem nZn {t y : Nat} : decide (cmpL (digs t) (digs y) ≥ 0) = decide (y ≤ t) := by
 rw [bZY]
 by_cases h : t < y
 ·rw [if_pos h, decide_eq_false oM, decide_eq_false oM]
 ·rw [if_neg h, decide_eq_true (p := y ≤ t) oM]
  split <;> rfl
set_option maxHeartbeats 2000000 in
theorem oZR (x y : Nat) (hx : (digs x).length ≤ 536870912) (hyl : (digs y).length ≤ 536870912) (hy : y ≠ 0) (hbig : ¬ ((digs x).length ≤ 2 ∧ (digs y).length ≤ 2)) : Fn Tryz.prog En 161 [mag (digs x), mag (digs y)] (DivP x y) := by
 unfold DivP
 have hxlt := aZV x
 have ht1 := fZI En (pd (x / y) (digs x).length) (by rw [aZP]; omega)
 rw [dZ4 _ _ (Nat.lt_of_le_of_lt (Nat.div_le_self _ _) hxlt)] at ht1
 have hpub := pZZ (x / y) (digs x).length (digs x).length (Nat.le_refl _)
 have hgx : ∀ j, j < (digs x).length → (digs x)[j]? = some (x / B ^ j % B) := fun j hj => oZX hj
 have hrl : ∀ r, r < y → (digs r).length ≤ 536870912 := fun r hr => Nat.le_trans (aZS oM) hyl
 have e36 : IntKind.i64.wrap (32 * ((digs x).length : Int)) = 32 * ((digs x).length : Int) := w64 oM oM
 have e37 : IntKind.i64.wrap (32 * ((digs x).length : Int) - 1) = ((32 * (digs x).length : Nat) : Int) - 1 := by rw [w64 oM oM]; omega
 refine aZb Tryz.func161 rfl Tryz.ntmps161 rfl ?_
 intro w0 h0
 refine kO ?_
 refine jr<|ja jj<|ja jj<|jn ?_
 refine WpD.cut (α := Unit) (fun _ => ⟨[(0, .one (mag (digs x))), (1, .one (mag (digs y))), (4, .one (ex (.slice none 0 0))), (5, .one (ex (.slice none 0 0)))], []⟩) ?_ ?_
 ·by_cases h2 : (digs x).length ≤ 2
  ·have b1 : decide (((digs x).length : Int) ≤ 2) = true := decide_eq_true oM
   have b2 : decide (((digs y).length : Int) ≤ 2) = false := decide_eq_false oM
   refine kO ?_
   refine jr<|jm jj<|jE jj<|jS (bVe jj jj b1)<|jm jj ?_
   first | refine jgm jj ?_ | refine jk ?_
   first | refine jg (bZo jj CSlice.ok) ?_ | refine jk ?_
   first | refine jg (bVe jj jj b2) ?_ | refine jk ?_
   first | refine jq jj jj ?_ | refine jQ jj jj ?_
   refine jn ?_
   refine kO ?_
   refine WpD.condF rfl ?_
   refine kO ?_
   refine WpD.skip ?_
   refine ⟨(), ?_⟩
   exact Sub.mk sJ sJ
  ·have b1 : decide (((digs x).length : Int) ≤ 2) = false := decide_eq_false oM
   refine kO ?_
   refine jr<|jm jj<|jE jj<|jS (bVe jj jj b1)<|jm jj ?_
   first | refine jgm jj ?_ | refine jk ?_
   first | refine jg (bZo jj CSlice.ok) ?_ | refine jk ?_
   first | refine jg (aZ6 jj jj (fun w => eZq w _ _ _ _ _ _)) ?_ | refine jk ?_
   first | refine jq jj jj ?_ | refine jQ jj jj ?_
   refine jn ?_
   refine kO ?_
   refine WpD.condF rfl ?_
   refine kO ?_
   refine WpD.skip ?_
   refine ⟨(), ?_⟩
   exact Sub.mk sJ sJ
 rintro ⟨⟩
 refine kO ?_
 refine jr<|jm jj<|jE jj<|jT (dZC jj jj jj jj oM oM)<|ja jj<|jn ?_
 refine kO ?_
 refine jr<|jm jj<|jE jj<|jS (bMu jj jj e36)<|jS (bSu jj jj e37)<|ja jj<|jn ?_
 refine kO ?_
 refine WpD.loop (α := {i : Nat // i ≤ 32 * (digs x).length}) (fun i => ⟨[(0, .one (mag (digs x))), (1, .one (mag (digs y))), (4, .own 33 0 (digs x).length (digs x).length), (5, .one (mag (digs (x / 2 ^ i.1 % y)))), (8, .one (ex (.int .i64 ((i.1 : Int) - 1))))], [(33, (pd (QV x y i.1) (digs x).length).map lb)]⟩) (fun i => i.1) ⟨32 * (digs x).length, Nat.le_refl _⟩ ?_ ?_
 ·have hx0 : x / 2 ^ (32 * (digs x).length) = 0 := Nat.div_eq_of_lt (by rw [Nat.pow_mul]; exact hxlt)
  have hz : List.replicate (digs x).length (ex (.int .u32 0)) = (pd (QV x y (32 * (digs x).length)) (digs x).length).map lb := by
   rw [fZb]
   unfold QV
   rw [hx0, Nat.zero_div, Nat.zero_mul]
   congr 1
   refine gZF ?_ ?_ (by simp)
   ·intro z hz; rw [(List.mem_replicate.1 hz).2]; exact aZY
   ·exact iZq fun z hz => (List.mem_replicate.1 hz).2
  dsimp only
  rw [hx0, Nat.zero_mod, bZz]
  refine Sub.mk ?_ ⟨.inl ⟨_, rfl, PsLe.of_eq hz⟩, trivial⟩
  repeat (first | exact trivial | refine ⟨⟨_, rfl, rfl⟩, Option.some_ne_none _, ?_⟩ | refine ⟨⟨_, rfl, rfl⟩, Option.some_ne_none _, ?_⟩ | refine ⟨pK, trivial, ?_⟩ | refine ⟨⟨_, rfl, eZx⟩, trivial, ?_⟩)
 rintro ⟨i, hi⟩
 dsimp only
 cases i with
 | zero =>
  have b4 : decide ((((0 : Nat) : Int) - 1) ≥ 0) = false := by decide
  rw [QV_zero, Nat.pow_zero, Nat.div_one]
  refine kO ?_
  refine jr<|jm jj<|jS (bVh jj jj b4)<|jn ?_
  refine kO ?_
  refine WpD.condF rfl ?_
  refine kO ?_
  refine WpD.exit ?_
  refine WpD.sub (τ := ⟨[(4, .one (mag (pd (x / y) (digs x).length))), (5, .one (mag (digs (x % y))))], []⟩) ?_ ?_
  ·
   refine Sub.pub 33 rfl rfl ?_ ?_ rfl
   ·repeat (first | exact trivial | refine ⟨.inl ⟨pK, trivial⟩, ?_⟩ | refine ⟨.inl ⟨⟨_, rfl, rfl⟩, Option.some_ne_none _⟩, ?_⟩ | refine ⟨.inl ⟨⟨_, rfl, rfl⟩, ⟨Option.some_ne_none _, Option.some_ne_none _⟩⟩, ?_⟩ | refine ⟨.inr (.inl ⟨_, _, _, _, rfl, rfl, hpub⟩), ?_⟩ | refine ⟨.inr (.inr (.inl ⟨_, _, _, rfl, rfl, hpub⟩)), ?_⟩)
   ·repeat (first | exact trivial | refine jz ?_ | refine jy rfl ?_)
  refine kO ?_
  refine jr<|jm jj<|jS (aZa ht1 tA)<|jm jj<|ja jj<|ja jj<|jn ?_
  refine kO ?_
  refine WpD.ret ?_
  exact ret2 rfl (.tmp rfl) (.tmp rfl) (PLe.refl _)
 | succ i =>
  have hj : i / 32 < (digs x).length := oM
  have b4 : decide ((i : Int) ≥ 0) = true := decide_eq_true oM
  have eq : IntKind.i64.wrap ((i : Int).tdiv 32) = ((i / 32 : Nat) : Int) := by rw [Int.tdiv_eq_ediv_of_nonneg oM, w64 oM oM]; omega
  have er : (i : Int).tmod 32 = ((i % 32 : Nat) : Int) := by rw [Int.tmod_eq_emod_of_nonneg oM]; omega
  have hg := hgx _ hj
  have hm32 : i % 32 < 32 := Nat.mod_lt _ aD
  have e8 := shrN (x / B ^ (i / 32) % B) (i % 32) oM
  have e9 := nZy (x / B ^ (i / 32) % B / 2 ^ (i % 32))
  rw [oZE] at e9
  have h2 : x / 2 ^ i % 2 ≤ 1 := oM
  have e41 : IntKind.i64.wrap ((i : Int) - 1) = (i : Int) - 1 := w64 oM oM
  have hry := Nat.mod_lt (x / 2 ^ (i + 1)) (Nat.pos_of_ne_zero hy)
  have hr1 := hrl _ hry
  have D1 := fdouble En (digs (x / 2 ^ (i + 1) % y)) (x / 2 ^ i % 2) oM h2
  have D2 := kZg En (2 * (x / 2 ^ (i + 1) % y) + x / 2 ^ i % 2) ((digs (x / 2 ^ (i + 1) % y)).length + 1) oM
  rw [aZi] at D1
  have hlo := @dv_lo x y i
  have hhi := @dv_hi x y i (Nat.pos_of_ne_zero hy)
  have htl := dbl_len h2 hr1
  generalize htt : 2 * (x / 2 ^ (i + 1) % y) + x / 2 ^ i % 2 = t at *
  have D3 := fcmp En (digs t) (digs y) oM oM
  rw [show (((i + 1 : Nat) : Int) - 1) = (i : Int) by omega]
  by_cases hty : y ≤ t
  ·have b5 : decide (cmpL (digs t) (digs y) ≥ 0) = true := by rw [nZn]; exact decide_eq_true hty
   obtain ⟨f1, f2⟩ := hhi hty
   have D4 := fdif En (digs t) (digs y) oM (aZS hty) (by rw [aZi, aZi]; exact hty)
   rw [aZi, aZi] at D4
   have D5 := kZg En (t - y) (digs t).length oM
   have hd := QV_dvd x y (i + 1)
   have hV : QV x y (i + 1) < B ^ (digs x).length := Nat.lt_of_le_of_lt (QV_le _ _ _) hxlt
   obtain ⟨c', hc', hfree⟩ := hZN hd
   have hset0 := pd_or hj hd hV
   have hgq := jZC (QV x y (i + 1)) (digs x).length (i / 32) hj
   rw [← f2] at hset0
   generalize QV x y (i + 1) / B ^ (i / 32) % B = a at *
   have hgq' : ((pd (QV x y (i + 1)) (digs x).length).map lb)[i / 32]? = some (lb a) := by rw [List.getElem?_map, hgq]; rfl
   have hsl : i / 32 < ((pd (QV x y (i + 1)) (digs x).length).map lb).length := by rw [List.length_map, aZP]; exact hj
   have hset : ((pd (QV x y (i + 1)) (digs x).length).map lb).set (i / 32) (ex (.int .u32 ((a + 2 ^ (i % 32) : Nat) : Int))) = (pd (QV x y i) (digs x).length).map lb := by
    rw [← hset0, List.map_set]; rfl
   have e69 : IntKind.u32.wrap (1 * 2 ^ (min ((i % 32 : Nat) : Int).toNat IntKind.u32.bits)) = ((2 ^ (i % 32) : Nat) : Int) := by
    rw [Int.toNat_natCast, show min (i % 32) IntKind.u32.bits = i % 32 from Nat.min_eq_left (by show i % 32 ≤ 32; omega), Int.one_mul]
    have hp := Nat.two_pow_pos (i % 32)
    rw [show ((2 : Int) ^ (i % 32)) = ((2 ^ (i % 32) : Nat) : Int) by norm_cast, IntKind.wrap_u32]
    rw [aZv] at hfree
    generalize 2 ^ (i % 32) = z at *
    omega
   have e70 := oZy hc' hfree
   refine kO ?_
   refine jr<|jm jj<|jS (bVh jj jj b4)<|jn ?_
   refine kO ?_
   refine WpD.condT rfl ?_
   refine kO ?_
   refine WpD.skip ?_
   refine kO ?_
   refine jr<|jm jj<|jm jj<|jm jj<|jS (bQu jj jj eq)<|jS (aZs jj jj aM)<|jS (aZh jj jj)<|jm jj<|jS (bRe jj jj er)<|jS (aZf jj jj (fun w => aZH w _ _ _ _ _ _ _ aW) (vint e8))<|jS (aZf jj jj (fun w => eZR w _ _ _ _ _ _) (vint e9))<|jS (aZa D1 tB)<|jS (aZa D2 tA)<|ja jj<|jn ?_
   refine kO ?_
   refine jr<|jm jj<|jm jj<|jS (aZa D3 tB)<|jS (bVh jj jj b5)<|jn ?_
   refine kO ?_
   refine WpD.condT rfl ?_
   refine kO ?_
   refine jr<|jm jj<|jm jj<|jS (aZa D4 tB)<|jS (aZa D5 tA)<|ja jj<|jn ?_
   refine kO ?_
   refine jr<|jm jj<|jm jj<|jS (bQu jj jj eq)<|jS (aZO jj jj aO)<|jS (aZ9 jj jj aM)<|jm jj<|jS (bRe jj jj er)<|jS (aZf jj jj (fun w => cZg w _ _ _ _ _ _ _ aW) (vint e69))<|jS (aZf jj jj (fun w => cZP w _ _ _ _ _ _) (vint e70))<|jS (aZO jj jj aO)<|jO (aZK jj jj jj aM aM)<|jn ?_
   refine kO ?_
   refine jr<|jm jj<|jS (bSu jj jj e41)<|ja jj<|jn ?_
   refine ⟨⟨i, oM⟩, ?_, Nat.lt_succ_self i⟩
   dsimp only
   rw [f1]
   exact Sub.mk sJ sJ
  ·have b5 : decide (cmpL (digs t) (digs y) ≥ 0) = false := by rw [nZn]; exact decide_eq_false hty
   obtain ⟨f1, f2⟩ := hlo oM
   refine kO ?_
   refine jr<|jm jj<|jS (bVh jj jj b4)<|jn ?_
   refine kO ?_
   refine WpD.condT rfl ?_
   refine kO ?_
   refine WpD.skip ?_
   refine kO ?_
   refine jr<|jm jj<|jm jj<|jm jj<|jS (bQu jj jj eq)<|jS (aZs jj jj aM)<|jS (aZh jj jj)<|jm jj<|jS (bRe jj jj er)<|jS (aZf jj jj (fun w => aZH w _ _ _ _ _ _ _ aW) (vint e8))<|jS (aZf jj jj (fun w => eZR w _ _ _ _ _ _) (vint e9))<|jS (aZa D1 tB)<|jS (aZa D2 tA)<|ja jj<|jn ?_
   refine kO ?_
   refine jr<|jm jj<|jm jj<|jS (aZa D3 tB)<|jS (bVh jj jj b5)<|jn ?_
   refine kO ?_
   refine WpD.condF rfl ?_
   refine kO ?_
   refine WpD.skip ?_
   refine kO ?_
   refine jr<|jm jj<|jS (bSu jj jj e41)<|ja jj<|jn ?_
   refine ⟨⟨i, oM⟩, ?_, Nat.lt_succ_self i⟩
   dsimp only
   rw [f1, f2]
   exact Sub.mk sJ sJ
theorem oZQ (x y : Nat) (hx : (digs x).length ≤ 536870912) (hyl : (digs y).length ≤ 536870912) (hy : y ≠ 0) : Fn Tryz.prog En 161 [mag (digs x), mag (digs y)] (DivP x y) := by
 by_cases h : (digs x).length ≤ 2 ∧ (digs y).length ≤ 2
 ·exact fdivide En x y (gZv x y hy h.1 h.2)
 ·exact oZR En x y hx hyl hy h
end
end
end Go.Proofs.YtfmjdlogjmofbaaGreatDoor

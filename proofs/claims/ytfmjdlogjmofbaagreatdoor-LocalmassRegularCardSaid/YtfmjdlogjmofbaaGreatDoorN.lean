/- Natural numbers of the program: trim, fromWord, word, compareNat. -/
import Derived.Test.YtfmjdlogjmofbaaGreatDoorMem
import Derived.Test.YtfmjdlogjmofbaaGreatDoorM
import Derived.Test.YtfmjdlogjmofbaaGreatDoorProg
import Derived.IntWalk
import Derived.Test.YtfmjdlogjmofbaaGreatDoorL
import Derived.Test.YtfmjdlogjmofbaaGreatDoorW
set_option maxRecDepth 3000
namespace Go.Proofs.YtfmjdlogjmofbaaGreatDoor
section
open Go.RowKit Limb
instance : CMix Tryz.prog := ⟨by kernel_rfl⟩
instance : CBool Tryz.prog 4 := ⟨Tryz.underlying4⟩
instance : CSlice Tryz.prog 30 168 := ⟨Tryz.underlying30⟩
instance : CElem Tryz.prog 30 168 1 := ⟨Tryz.underlying30, by kernel_rfl⟩
instance : CZero1 Tryz.prog 168 (.int .u32 0) 4 := ⟨by kernel_rfl, rfl⟩
instance : COne Tryz.prog 168 := ⟨⟨_, Tryz.underlying168, rfl, by kernel_rfl⟩⟩
instance : COne Tryz.prog 4 := ⟨⟨_, Tryz.underlying4, rfl, by kernel_rfl⟩⟩
instance : COne Tryz.prog 30 := ⟨⟨_, Tryz.underlying30, rfl, by kernel_rfl⟩⟩
instance : CInt Tryz.prog 168 .u32 := ⟨Tryz.underlying168⟩
instance : CInt Tryz.prog 114 .u64 := ⟨Tryz.underlying114⟩
instance : CInt Tryz.prog 2 .i64 := ⟨Tryz.underlying2⟩
instance : CInt Tryz.prog 3 .i64 := ⟨Tryz.underlying3⟩
instance cbody95 : CBody Tryz.prog 95 := ⟨⟨_, Tryz.func95, rfl, by rfl⟩⟩
instance cbody134 : CBody Tryz.prog 134 := ⟨⟨_, Tryz.func134, rfl, by rfl⟩⟩
instance cbody144 : CBody Tryz.prog 144 := ⟨⟨_, Tryz.func144, rfl, by rfl⟩⟩
instance cbody94 : CBody Tryz.prog 94 := ⟨⟨_, Tryz.func94, rfl, by rfl⟩⟩
instance cbody171 : CBody Tryz.prog 171 := ⟨⟨_, Tryz.func171, rfl, by rfl⟩⟩
instance cbody172 : CBody Tryz.prog 172 := ⟨⟨_, Tryz.func172, rfl, by rfl⟩⟩
instance cbody97 : CBody Tryz.prog 97 := ⟨⟨_, Tryz.func97, rfl, by rfl⟩⟩
instance cbody170 : CBody Tryz.prog 170 := ⟨⟨_, Tryz.func170, rfl, by rfl⟩⟩
instance cbody125 : CBody Tryz.prog 125 := ⟨⟨_, Tryz.func125, rfl, by rfl⟩⟩
instance cbody190 : CBody Tryz.prog 190 := ⟨⟨_, Tryz.func190, rfl, by rfl⟩⟩
instance cbody189 : CBody Tryz.prog 189 := ⟨⟨_, Tryz.func189, rfl, by rfl⟩⟩
instance cbody191 : CBody Tryz.prog 191 := ⟨⟨_, Tryz.func191, rfl, by rfl⟩⟩
theorem w64 {n : Int} (h1 : -9223372036854775808 ≤ n) (h2 : n ≤ 9223372036854775807) : IntKind.i64.wrap n = n := IntWalk.i64_in _ ⟨h1, h2⟩
theorem wu64 {n : Int} (h1 : 0 ≤ n) (h2 : n < 18446744073709551616) : IntKind.u64.wrap n = n := IntWalk.u64_in _ ⟨h1, oM⟩
section
variable (En : Ev)
theorem cZx (l : List Nat) (hl : Lm l) (hlen : l.length ≤ 1099511627776) : Fn Tryz.prog En 95 [mag l] (mag (digs (val l))) := by
 refine aZb Tryz.func95 rfl Tryz.ntmps95 rfl ?_
 intro w0 h0
 refine kO ?_
 refine jr<|ja jj<|jn ?_
 refine kO ?_
 refine WpD.loop (α := {k : Nat // k ≤ l.length ∧ ∀ i x, k ≤ i → l[i]? = some x → x = 0}) (fun k => ⟨[(0, .one (mag (l.take k.1)))], []⟩) (fun k => k.1) ⟨l.length, Nat.le_refl _, fun i x hi hx => by rw [List.getElem?_eq_none hi] at hx; cases hx⟩ ?_ ?_
 ·refine Sub.mk ⟨⟨_, rfl, ?_⟩, trivial, trivial⟩ trivial
  show PLe (mag l) (mag (l.take l.length))
  rw [List.take_length]
  exact PLe.refl _
 ·rintro ⟨k, hk, hz⟩
  dsimp only
  have hlt : (l.take k).length = k := by simp; omega
  cases k with
  | zero =>
   have hb : decide (((l.take 0).length : Int) > 0) = false := by simp
   have hd : l.take 0 = digs (val l) := dZP hl (Nat.zero_le _) hz (fun x h => absurd h (Nat.lt_irrefl 0))
   refine kO ?_
   refine jr<|jm jj<|jE jj<|jS (bVg jj jj hb)<|jm jj ?_
   first | refine jgm jj ?_ | refine jk ?_
   first | refine jgm jj ?_ | refine jk ?_
   first | refine jg (bZo jj CSlice.ok) ?_ | refine jk ?_
   first | refine jg (aZ6 jj jj (fun w => cZy w _ _ _ _ _ _)) ?_ | refine jk ?_
   first | refine jg (aZs jj jj aM) ?_ | refine jk ?_
   first | refine jg (aZh jj jj) ?_ | refine jk ?_
   first | refine jg (aZ6 jj jj (fun w => cZ6 w _ _ _ _ _ _)) ?_ | refine jk ?_
   first | refine jq jj jj ?_ | refine jQ jj jj ?_
   refine jn ?_
   refine kO ?_
   refine WpD.condF rfl ?_
   refine kO ?_
   refine WpD.exit ?_
   refine kO ?_
   refine jr<|jm jj<|ja jj<|jn ?_
   refine kO ?_
   refine WpD.ret ?_
   refine ret1 rfl (.tmp rfl) ?_
   rw [hd]; exact PLe.refl _
  | succ k =>
   obtain ⟨x, hx⟩ : ∃ x, l[k]? = some x := ⟨_, List.getElem?_eq_getElem oM⟩
   have hx' : (l.take (k + 1))[k]? = some x := by rw [List.getElem?_take_of_lt oM]; exact hx
   have hb : decide (((l.take (k + 1)).length : Int) > 0) = true := by rw [hlt]; exact decide_eq_true oM
   have h7 : IntKind.i64.wrap (((l.take (k + 1)).length : Int) - 1) = (k : Int) := by rw [hlt, w64 oM oM]; omega
   by_cases hx0 : x = 0
   ·have hb2 : ((x : Int) == 0) = true := by rw [hx0]; rfl
    refine kO ?_
    refine jr<|jm jj<|jE jj<|jS (bVg jj jj hb)<|jm jj ?_
    first | refine jgm jj ?_ | refine jk ?_
    first | refine jgm jj ?_ | refine jk ?_
    first | refine jg (bZo jj CSlice.ok) ?_ | refine jk ?_
    first | refine jg (bSu jj jj h7) ?_ | refine jk ?_
    first | refine jg (aZs jj jj aM) ?_ | refine jk ?_
    first | refine jg (aZh jj jj) ?_ | refine jk ?_
    first | refine jg (bVq jj jj hb2) ?_ | refine jk ?_
    first | refine jq jj jj ?_ | refine jQ jj jj ?_
    refine jn ?_
    refine kO ?_
    refine WpD.condT rfl ?_
    refine kO ?_
    refine WpD.skip ?_
    refine kO ?_
    refine jr<|jm jj<|jm jj<|jE jj<|jS (bSu jj jj h7)<|jS (hZ2 jj jj oM)<|ja jj<|jn ?_
    refine ⟨⟨k, oM, fun i y hi hy => ?_⟩, ?_, Nat.lt_succ_self k⟩
    ·by_cases e : i = k
     ·subst e; rw [hx] at hy; cases hy; exact hx0
     ·exact hz i y oM hy
    ·refine Sub.mk ⟨⟨_, rfl, ?_⟩, trivial, trivial⟩ trivial
     show PLe (mag ((l.take (k + 1)).take k)) (mag (l.take k))
     rw [List.take_take, Nat.min_eq_left oM]
     exact PLe.refl _
   ·have hb2 : ((x : Int) == 0) = false := by rw [beq_eq_false_iff_ne]; omega
    have hd : l.take (k + 1) = digs (val l) := dZP hl hk hz (fun y _ hy => by rw [Nat.add_sub_cancel, hx] at hy; cases hy; exact hx0)
    refine kO ?_
    refine jr<|jm jj<|jE jj<|jS (bVg jj jj hb)<|jm jj ?_
    first | refine jgm jj ?_ | refine jk ?_
    first | refine jgm jj ?_ | refine jk ?_
    first | refine jg (bZo jj CSlice.ok) ?_ | refine jk ?_
    first | refine jg (bSu jj jj h7) ?_ | refine jk ?_
    first | refine jg (aZs jj jj aM) ?_ | refine jk ?_
    first | refine jg (aZh jj jj) ?_ | refine jk ?_
    first | refine jg (bVq jj jj hb2) ?_ | refine jk ?_
    first | refine jq jj jj ?_ | refine jQ jj jj ?_
    refine jn ?_
    refine kO ?_
    refine WpD.condF rfl ?_
    refine kO ?_
    refine WpD.exit ?_
    refine kO ?_
    refine jr<|jm jj<|ja jj<|jn ?_
    refine kO ?_
    refine WpD.ret ?_
    refine ret1 rfl (.tmp rfl) ?_
    rw [hd]; exact PLe.refl _
theorem nZR (u : Nat) : val [u % B, u / B] = u := by simp only [val, Nat.mul_zero, Nat.add_zero]; exact Nat.mod_add_div u B
theorem mZ8 {u : Nat} (hu : u < 18446744073709551616) : Lm [u % B, u / B] := by
 have h1 : u % B < B := Nat.mod_lt _ aZY
 have h2 : u / B < B := by rw [aZv]; omega
 exact Lm.cons h1 (Lm.cons h2 Lm.nil)
theorem cZs (u : Nat) (hu : u < 18446744073709551616) : Fn Tryz.prog En 134 [ex (.int .u64 (u : Int))] (mag (digs u)) := by
 have C1 := cZx En [u % B, u / B] (mZ8 hu) (by simp)
 rw [nZR] at C1
 have h1 : IntKind.u32.wrap (u : Int) = ((u % B : Nat) : Int) := by rw [IntKind.wrap_u32, aZv]; omega
 have h3 : (u : Int).fdiv (2 ^ (min (32 : Int).toNat IntKind.u64.bits)) = ((u / B : Nat) : Int) := by
  show (u : Int).fdiv (2 ^ 32) = _
  rw [Int.fdiv_eq_ediv_of_nonneg _ aD, aZv]; norm_cast
 have h4 : IntKind.u32.wrap ((u / B : Nat) : Int) = ((u / B : Nat) : Int) := by rw [IntKind.wrap_u32, aZv]; omega
 have hlm := mZ8 hu
 refine aZb Tryz.func134 rfl Tryz.ntmps134 rfl ?_
 intro w0 h0
 refine kO ?_
 refine jr<|ja jj<|jn ?_
 refine kO ?_
 refine jr<|jm jj<|jS (bCv jj h1)<|jm jj<|jS (aZf jj jj (fun w => aZH w _ _ _ _ _ _ _ aW) (vint h3))<|jS (bCv jj h4)<|jS (hZ3 (l := [u % B, u / B]) tD jj jj jj hlm)<|jS (aZa C1 tA)<|ja jj<|jn ?_
 refine kO ?_
 refine WpD.ret ?_
 exact rtT rfl jj
end
end
section
open Go.RowKit Limb
theorem jZD {a b j : Nat} (ha : a < 2 ^ j) (hb : 2 ^ j * b < 18446744073709551616) (hj : j ≤ 64) : IntKind.u64.wrap ((BitVec.ofInt IntKind.u64.bits (a : Int) ||| BitVec.ofInt IntKind.u64.bits ((2 ^ j * b : Nat) : Int)).toNat : Int) = ((a + 2 ^ j * b : Nat) : Int) := by
 have hj' : 2 ^ j ≤ 2 ^ 64 := Nat.pow_le_pow_right aD hj
 have e64 : (2 : Nat) ^ 64 = 18446744073709551616 := by decide
 have h1 : (BitVec.ofInt 64 (a : Int)).toNat = a := by
  rw [BitVec.ofInt_natCast, BitVec.toNat_ofNat]; exact Nat.mod_eq_of_lt oM
 have h2 : (BitVec.ofInt 64 ((2 ^ j * b : Nat) : Int)).toNat = 2 ^ j * b := by
  rw [BitVec.ofInt_natCast, BitVec.toNat_ofNat]; exact Nat.mod_eq_of_lt oM
 have h3 : a ||| 2 ^ j * b = a + 2 ^ j * b := by
  rw [Nat.or_comm, ← Nat.two_pow_add_eq_or_of_lt ha, Nat.add_comm]
 have hlt : a + 2 ^ j * b < 18446744073709551616 := by
  rw [← h3, ← e64]; exact Nat.or_lt_two_pow oM oM
 show IntKind.u64.wrap ((BitVec.ofInt 64 (a : Int) ||| BitVec.ofInt 64 ((2 ^ j * b : Nat) : Int)).toNat : Int) = _
 rw [BitVec.toNat_or, h1, h2, h3]
 exact wu64 oM oM
theorem setL (A Z : List Nat) (y x : Nat) : ((A ++ y :: Z).map lb).set A.length (lb x) = ((A ++ [x]) ++ Z).map lb := by
 simp
theorem kZ6 {A : List Nat} {m i x : Nat} (hA : A.length = i) : ((A ++ List.replicate (m + 1) 0).map lb).set i (lb x) = ((A ++ [x]) ++ List.replicate m 0).map lb := by
 subst hA; rw [List.replicate_succ]; exact setL A _ 0 x
theorem fZb (m : Nat) : List.replicate m (ex (.int .u32 0)) = (List.replicate m 0).map lb := by rw [List.map_replicate]; rfl
section
variable (En : Ev)
theorem kZM (l : List Nat) (hl2 : Lm l) (hl : l.length ≤ 2) : Fn Tryz.prog En 144 [mag l] (ex (.int .u64 ((val l : Nat) : Int))) := by
 refine aZb Tryz.func144 rfl Tryz.ntmps144 rfl ?_
 intro w0 h0
 refine kO ?_
 refine jr<|ja jj<|jn ?_
 refine kO ?_
 refine jr<|ja jj<|jn ?_
 refine kO ?_
 refine jr<|jm jj<|jE jj<|jm jj<|jn ?_
 refine kO ?_
 refine WpD.loop (α := {k : Nat // k ≤ l.length}) (fun k => ⟨[(3, .one (ex (.int .u64 ((val (l.take k.1) : Nat) : Int)))), (6, .one (mag l)), (7, .one (ex (.int .i64 (l.length : Int)))), (8, .one (ex (.int .i64 (k.1 : Int))))], []⟩) (fun k => l.length - k.1) ⟨0, Nat.zero_le _⟩ ?_ ?_
 ·
  exact Sub.mk sJ sJ
 ·rintro ⟨k, hk⟩
  dsimp only
  by_cases hlt : k < l.length
  ·obtain ⟨x, hx⟩ : ∃ x, l[k]? = some x := ⟨_, List.getElem?_eq_getElem hlt⟩
   have hxB := hl2.get hx
   have hb : decide ((k : Int) < (l.length : Int)) = true := decide_eq_true oM
   have h2 : IntKind.u64.wrap (x : Int) = (x : Int) := wu64 oM (by rw [aZv] at hxB; omega)
   have h4 : IntKind.i64.wrap (32 * (k : Int)) = ((32 * k : Nat) : Int) := by rw [w64 oM oM]; omega
   have hv := aZk l k
   rw [hx, Option.getD_some] at hv
   have hlow := bZ2 (hl2.take k)
   rw [List.length_take, Nat.min_eq_left oM] at hlow
   have eB : B ^ k = 2 ^ (32 * k) := by rw [Nat.pow_mul]; rfl
   rw [eB] at hlow hv
   have hk1 : k = 0 ∨ k = 1 := oM
   have hbig : 2 ^ (32 * k) * x < 18446744073709551616 := by rcases hk1 with rfl | rfl <;> rw [aZv] at hxB <;> simp <;> omega
   have h5 : IntKind.u64.wrap ((x : Int) * 2 ^ (min (((32 * k : Nat) : Int)).toNat IntKind.u64.bits)) = ((2 ^ (32 * k) * x : Nat) : Int) := by
    rw [Int.toNat_natCast, show min (32 * k) IntKind.u64.bits = 32 * k from Nat.min_eq_left (by show 32 * k ≤ 64; omega)]
    rw [show (x : Int) * 2 ^ (32 * k) = ((2 ^ (32 * k) * x : Nat) : Int) by rw [Int.natCast_mul, Int.mul_comm]; norm_cast]
    exact wu64 oM oM
   have h6 := jZD hlow hbig oM
   rw [← hv] at h6
   have h8 : IntKind.i64.wrap ((k : Int) + 1) = ((k + 1 : Nat) : Int) := by rw [w64 oM oM]; omega
   refine kO ?_
   refine jr<|jS (bVl jj jj hb)<|jn ?_
   refine kO ?_
   refine WpD.condT rfl ?_
   refine kO ?_
   refine WpD.skip ?_
   refine kO ?_
   refine jr<|jm jj<|jS (aZs jj jj aM)<|jS (aZh jj jj)<|ja jj<|ja jj<|jn ?_
   refine kO ?_
   refine jr<|jm jj<|jm jj<|jS (bCv jj h2)<|jm jj<|jS (bMu jj jj h4)<|jS (aZf jj jj (fun w => cZg w _ _ _ _ _ _ _ aW) (vint h5))<|jS (aZf jj jj (fun w => cZP w _ _ _ _ _ _) (vint h6))<|ja jj<|jn ?_
   refine kO ?_
   refine jr<|jS (bAd jj jj h8)<|jm jj<|jn ?_
   refine ⟨⟨k + 1, hlt⟩, ?_, by simp only; omega⟩
   exact Sub.mk sJ sJ
  ·have hb : decide ((k : Int) < (l.length : Int)) = false := decide_eq_false oM
   have hkl : k = l.length := oM
   subst hkl
   refine kO ?_
   refine jr<|jS (bVl jj jj hb)<|jn ?_
   refine kO ?_
   refine WpD.condF rfl ?_
   refine kO ?_
   refine WpD.exit ?_
   refine kO ?_
   refine jr<|jm jj<|ja jj<|jn ?_
   refine kO ?_
   refine WpD.ret ?_
   refine ret1 rfl (.tmp rfl) ?_
   rw [List.take_length]; exact PLe.refl _
theorem dZ1 (a b : List Nat) (ha : a.length ≤ 1099511627776) (hla : Lm a) (hlb : Lm b) : Fn Tryz.prog En 94 [mag a, mag b] (ex (.int .i64 (cmpL a b))) := by
 by_cases h1 : a.length < b.length
 ·have e1 : cmpL a b = -1 := by unfold cmpL; rw [if_pos h1]
  have b1 : decide ((a.length : Int) < (b.length : Int)) = true := decide_eq_true oM
  rw [e1]
  refine aZb Tryz.func94 rfl Tryz.ntmps94 rfl ?_
  intro w0 h0
  refine kO ?_
  refine jr<|ja jj<|jn ?_
  refine kO ?_
  refine jr<|jm jj<|jE jj<|jm jj<|jE jj<|jS (bVl jj jj b1)<|ja jj<|jn ?_
  refine kO ?_
  refine WpD.condT rfl ?_
  refine kO ?_
  refine jr<|ja jj<|jn ?_
  refine kO ?_
  refine WpD.ret ?_
  exact rtT rfl jj
 ·have b1 : decide ((a.length : Int) < (b.length : Int)) = false := decide_eq_false oM
  by_cases h2 : b.length < a.length
  ·have e1 : cmpL a b = 1 := by unfold cmpL; rw [if_neg h1, if_pos h2]
   have b2 : decide ((a.length : Int) > (b.length : Int)) = true := decide_eq_true oM
   rw [e1]
   refine aZb Tryz.func94 rfl Tryz.ntmps94 rfl ?_
   intro w0 h0
   refine kO ?_
   refine jr<|ja jj<|jn ?_
   refine kO ?_
   refine jr<|jm jj<|jE jj<|jm jj<|jE jj<|jS (bVl jj jj b1)<|ja jj<|jn ?_
   refine kO ?_
   refine WpD.condF rfl ?_
   refine kO ?_
   refine jr<|jm jj<|jE jj<|jm jj<|jE jj<|jS (bVg jj jj b2)<|ja jj<|jn ?_
   refine kO ?_
   refine WpD.condT rfl ?_
   refine kO ?_
   refine jr<|ja jj<|jn ?_
   refine kO ?_
   refine WpD.ret ?_
   exact rtT rfl jj
  ·have b2 : decide ((a.length : Int) > (b.length : Int)) = false := decide_eq_false oM
   have hlen : a.length = b.length := oM
   have hw : IntKind.i64.wrap ((a.length : Int) - 1) = (a.length : Int) - 1 := w64 oM oM
   have cE : cmpL a b = if val a < val b then -1 else if val b < val a then 1 else 0 := by unfold cmpL; rw [if_neg h1, if_neg h2]
   refine aZb Tryz.func94 rfl Tryz.ntmps94 rfl ?_
   intro w0 h0
   refine kO ?_
   refine jr<|ja jj<|jn ?_
   refine kO ?_
   refine jr<|jm jj<|jE jj<|jm jj<|jE jj<|jS (bVl jj jj b1)<|ja jj<|jn ?_
   refine kO ?_
   refine WpD.condF rfl ?_
   refine kO ?_
   refine jr<|jm jj<|jE jj<|jm jj<|jE jj<|jS (bVg jj jj b2)<|ja jj<|jn ?_
   refine kO ?_
   refine WpD.condF rfl ?_
   refine kO ?_
   refine WpD.skip ?_
   refine kO ?_
   refine jr<|jm jj<|jE jj<|jS (bSu jj jj hw)<|ja jj<|jn ?_
   refine kO ?_
   refine WpD.loop (α := {k : Nat // k ≤ a.length ∧ a.drop k = b.drop k}) (fun k => ⟨[(0, .one (mag a)), (1, .one (mag b)), (5, .one (ex (.int .i64 ((k.1 : Int) - 1))))], []⟩) (fun k => k.1) ⟨a.length, Nat.le_refl _, by rw [List.drop_length, hlen, List.drop_length]⟩ ?_ ?_
   ·
    exact Sub.mk sJ sJ
   ·rintro ⟨k, hk, hd⟩
    dsimp only
    cases k with
    | zero =>
     have hab : a = b := by simpa using hd
     have b3 : decide ((((0 : Nat) : Int) - 1) ≥ 0) = false := by decide
     have e1 : cmpL a b = 0 := by rw [hab]; exact iZi b
     rw [e1]
     refine kO ?_
     refine jr<|jm jj<|jS (bVh jj jj b3)<|jn ?_
     refine kO ?_
     refine WpD.condF rfl ?_
     refine kO ?_
     refine WpD.exit ?_
     refine kO ?_
     refine jr<|ja jj<|jn ?_
     refine kO ?_
     refine WpD.ret ?_
     exact rtT rfl jj
    | succ j =>
     obtain ⟨x, hx⟩ : ∃ x, a[j]? = some x := ⟨_, List.getElem?_eq_getElem oM⟩
     obtain ⟨y, hy⟩ : ∃ y, b[j]? = some y := ⟨_, List.getElem?_eq_getElem oM⟩
     have b3 : decide ((j : Int) ≥ 0) = true := decide_eq_true oM
     rw [show (((j + 1 : Nat) : Int) - 1) = (j : Int) by omega]
     refine kO ?_
     refine jr<|jm jj<|jS (bVh jj jj b3)<|jn ?_
     refine kO ?_
     refine WpD.condT rfl ?_
     refine kO ?_
     refine WpD.skip ?_
     by_cases hxy : x < y
     ·have b4 : decide ((x : Int) < (y : Int)) = true := decide_eq_true oM
      have e1 : cmpL a b = -1 := by rw [cE, if_pos (cZf hlen hla hx hy hxy hd)]
      rw [e1]
      refine kO ?_
      refine jr<|jm jj<|jm jj<|jS (aZs jj jj aM)<|jS (aZh jj jj)<|jm jj<|jm jj<|jS (aZs jj jj aM)<|jS (aZh jj jj)<|jS (bVl jj jj b4)<|ja jj<|jn ?_
      refine kO ?_
      refine WpD.condT rfl ?_
      refine kO ?_
      refine jr<|ja jj<|jn ?_
      refine kO ?_
      refine WpD.ret ?_
      exact rtT rfl jj
     ·have b4 : decide ((x : Int) < (y : Int)) = false := decide_eq_false oM
      by_cases hyx : y < x
      ·have b5 : decide ((x : Int) > (y : Int)) = true := decide_eq_true oM
       have hlt := cZf hlen.symm hlb hy hx hyx hd.symm
       have e1 : cmpL a b = 1 := by rw [cE, if_neg oM, if_pos hlt]
       rw [e1]
       refine kO ?_
       refine jr<|jm jj<|jm jj<|jS (aZs jj jj aM)<|jS (aZh jj jj)<|jm jj<|jm jj<|jS (aZs jj jj aM)<|jS (aZh jj jj)<|jS (bVl jj jj b4)<|ja jj<|jn ?_
       refine kO ?_
       refine WpD.condF rfl ?_
       refine kO ?_
       refine jr<|jm jj<|jm jj<|jS (aZs jj jj aM)<|jS (aZh jj jj)<|jm jj<|jm jj<|jS (aZs jj jj aM)<|jS (aZh jj jj)<|jS (bVg jj jj b5)<|ja jj<|jn ?_
       refine kO ?_
       refine WpD.condT rfl ?_
       refine kO ?_
       refine jr<|ja jj<|jn ?_
       refine kO ?_
       refine WpD.ret ?_
       exact rtT rfl jj
      ·have b5 : decide ((x : Int) > (y : Int)) = false := decide_eq_false oM
       have h6 : IntKind.i64.wrap ((j : Int) - 1) = (j : Int) - 1 := w64 oM oM
       refine kO ?_
       refine jr<|jm jj<|jm jj<|jS (aZs jj jj aM)<|jS (aZh jj jj)<|jm jj<|jm jj<|jS (aZs jj jj aM)<|jS (aZh jj jj)<|jS (bVl jj jj b4)<|ja jj<|jn ?_
       refine kO ?_
       refine WpD.condF rfl ?_
       refine kO ?_
       refine jr<|jm jj<|jm jj<|jS (aZs jj jj aM)<|jS (aZh jj jj)<|jm jj<|jm jj<|jS (aZs jj jj aM)<|jS (aZh jj jj)<|jS (bVg jj jj b5)<|ja jj<|jn ?_
       refine kO ?_
       refine WpD.condF rfl ?_
       refine kO ?_
       refine WpD.skip ?_
       refine kO ?_
       refine jr<|jm jj<|jS (bSu jj jj h6)<|ja jj<|jn ?_
       refine ⟨⟨j, oM, ?_⟩, ?_, Nat.lt_succ_self j⟩
       ·rw [List.drop_eq_getElem_cons (by omega : j < a.length), List.drop_eq_getElem_cons (by omega : j < b.length), hd, (List.getElem?_eq_some_iff.1 hx).2, (List.getElem?_eq_some_iff.1 hy).2, show x = y by omega]
       ·
        exact Sub.mk sJ sJ
end
end
section
open Go.RowKit Limb
theorem PsLe.of_eq {a b : List Pd} (h : a = b) : PsLe a b := by rw [h]; exact PsLe.refl _
theorem u32w (c : Nat) : IntKind.u32.wrap (c : Int) = ((c % B : Nat) : Int) := by rw [IntKind.wrap_u32, aZv]; omega
theorem gZ2 (c : Nat) : (c : Int).fdiv (2 ^ (min (32 : Int).toNat IntKind.u64.bits)) = ((c / B : Nat) : Int) := by
 show (c : Int).fdiv (2 ^ 32) = _
 rw [Int.fdiv_eq_ediv_of_nonneg _ aD, aZv]; norm_cast
section
variable (En : Ev)
set_option maxHeartbeats 1000000 in
theorem nadd (a b : List Nat) (ha : a.length ≤ 549755813888) (hb : b.length ≤ 549755813888) (hla : Lm a) (hlb : Lm b) : Fn Tryz.prog En 171 [mag a, mag b] (mag (digs (val a + val b))) := by
 refine aZb Tryz.func171 rfl Tryz.ntmps171 rfl ?_
 intro w0 h0
 refine kO ?_
 refine jr<|ja jj<|jn ?_
 refine WpD.cut (α := {p : List Nat × List Nat // p.2.length ≤ p.1.length ∧ p.1.length ≤ 549755813888 ∧ Lm p.1 ∧ Lm p.2 ∧ val p.1 + val p.2 = val a + val b}) (fun p => ⟨[(0, .one (mag p.1.1)), (1, .one (mag p.1.2))], []⟩) ?_ ?_
 ·by_cases h : a.length < b.length
  ·have b1 : decide ((a.length : Int) < (b.length : Int)) = true := decide_eq_true oM
   refine kO ?_
   refine jr<|jm jj<|jE jj<|jm jj<|jE jj<|jS (bVl jj jj b1)<|jn ?_
   refine kO ?_
   refine WpD.condT rfl ?_
   refine kO ?_
   refine jr<|jm jj<|jm jj<|ja jj<|ja jj<|jn ?_
   refine ⟨⟨(b, a), by simp only; omega, hb, hlb, hla, by simp only; omega⟩, ?_⟩
   exact Sub.mk sJ sJ
  ·have b1 : decide ((a.length : Int) < (b.length : Int)) = false := decide_eq_false oM
   refine kO ?_
   refine jr<|jm jj<|jE jj<|jm jj<|jE jj<|jS (bVl jj jj b1)<|jn ?_
   refine kO ?_
   refine WpD.condF rfl ?_
   refine kO ?_
   refine WpD.skip ?_
   refine ⟨⟨(a, b), by simp only; omega, ha, hla, hlb, rfl⟩, ?_⟩
   exact Sub.mk sJ sJ
 ·rintro ⟨⟨x, y⟩, hle, hx, hlx, hly, hv⟩
  simp only at hle hx hlx hly hv
  dsimp only
  rw [← hv]
  clear hv hla hlb ha hb
  have h2 : IntKind.i64.wrap ((x.length : Int) + 1) = ((x.length + 1 : Nat) : Int) := by rw [w64 oM oM]; omega
  refine kO ?_
  refine jr<|jm jj<|jE jj<|jS (bAd jj jj h2)<|jT (dZC jj jj jj jj oM oM)<|ja jj<|jn ?_
  refine kO ?_
  refine jr<|ja jj<|jn ?_
  refine kO ?_
  refine jr<|jm jj<|jE jj<|jm jj<|jn ?_
  refine kO ?_
  refine WpD.loop (α := {p : Nat × List Nat × Nat // p.1 ≤ y.length ∧ SumInv x y p.1 p.2.1 p.2.2}) (fun p => ⟨[(0, .one (mag x)), (1, .one (mag y)), (5, .own 19 0 (x.length + 1) (x.length + 1)), (6, .one (ex (.int .u64 (p.1.2.2 : Int)))), (21, .one (ex (.int .i64 (y.length : Int)))), (22, .one (ex (.int .i64 (p.1.1 : Int))))], [(19, (p.1.2.1 ++ List.replicate (x.length + 1 - p.1.1) 0).map lb)]⟩) (fun p => y.length - p.1.1) ⟨(0, [], 0), Nat.zero_le _, SumInv.start x y⟩ ?_ ?_
  ·
   exact Sub.mk sJ ⟨.inl ⟨_, jj, PsLe.of_eq (fZb _)⟩, trivial⟩
  ·rintro ⟨⟨k, A, c⟩, hk, hS⟩
   simp only at hk hS
   dsimp only
   obtain ⟨hA, hAl, hc, _⟩ := id hS
   by_cases hlt : k < y.length
   ·obtain ⟨u, hu⟩ : ∃ u, x[k]? = some u := ⟨_, List.getElem?_eq_getElem oM⟩
    obtain ⟨v, hv⟩ : ∃ v, y[k]? = some v := ⟨_, List.getElem?_eq_getElem oM⟩
    have huB := hlx.get hu
    have hvB := hly.get hv
    rw [aZv] at huB hvB
    have hS' := SumInv.step hlx hly hS
    rw [hu, hv, Option.getD_some, Option.getD_some] at hS'
    have b1 : decide ((k : Int) < (y.length : Int)) = true := decide_eq_true oM
    have e5 : IntKind.u64.wrap (u : Int) = (u : Int) := wu64 oM oM
    have e10 : IntKind.u64.wrap (v : Int) = (v : Int) := wu64 oM oM
    have e11 : IntKind.u64.wrap ((u : Int) + (v : Int)) = (u : Int) + (v : Int) := wu64 oM oM
    have e12 : IntKind.u64.wrap ((c : Int) + ((u : Int) + (v : Int))) = ((c + u + v : Nat) : Int) := by rw [wu64 oM oM]; omega
    have hkn : k < x.length + 1 := oM
    have hm : x.length + 1 - k = (x.length - k) + 1 := oM
    have hsetl : k < ((A ++ List.replicate (x.length + 1 - k) 0).map lb).length := by simp; omega
    have hset : ((A ++ List.replicate (x.length + 1 - k) 0).map lb).set k (ex (.int .u32 (((c + u + v) % B : Nat) : Int))) = ((A ++ [(c + u + v) % B]) ++ List.replicate (x.length + 1 - (k + 1)) 0).map lb := by
     rw [hm, show x.length + 1 - (k + 1) = x.length - k by omega]; exact kZ6 hA
    have e13 : IntKind.i64.wrap ((k : Int) + 1) = ((k + 1 : Nat) : Int) := by rw [w64 oM oM]; omega
    refine kO ?_
    refine jr<|jS (bVl jj jj b1)<|jn ?_
    refine kO ?_
    refine WpD.condT rfl ?_
    refine kO ?_
    refine WpD.skip ?_
    refine kO ?_
    refine jr<|jm jj<|ja jj<|jn ?_
    refine kO ?_
    refine jr<|jm jj<|jm jj<|jm jj<|jS (aZs jj jj aM)<|jS (aZh jj jj)<|jS (bCv jj e5)<|jm jj<|jm jj<|jS (aZs jj jj aM)<|jS (aZh jj jj)<|jS (bCv jj e10)<|jS (bAd jj jj e11)<|jS (bAd jj jj e12)<|ja jj<|jn ?_
    refine kO ?_
    refine jr<|jm jj<|jm jj<|jm jj<|jS (bCv jj (u32w _))<|jS (aZO jj jj aO)<|jO (aZK jj jj jj aM aM)<|jn ?_
    refine kO ?_
    refine jr<|jm jj<|jS (aZf jj jj (fun w => aZH w _ _ _ _ _ _ _ aW) (vint (gZ2 _)))<|ja jj<|jn ?_
    refine kO ?_
    refine jr<|jS (bAd jj jj e13)<|jm jj<|jn ?_
    refine ⟨⟨(k + 1, A ++ [(c + u + v) % B], (c + u + v) / B), hlt, hS'⟩, ?_, by simp only; omega⟩
    exact Sub.mk sJ sJ
   ·have b1 : decide ((k : Int) < (y.length : Int)) = false := decide_eq_false oM
    have hky : k = y.length := oM
    subst hky
    have e4 : IntKind.i64.wrap ((x.length : Int) - (y.length : Int)) = ((x.length - y.length : Nat) : Int) := by rw [w64 oM oM]; omega
    refine kO ?_
    refine jr<|jS (bVl jj jj b1)<|jn ?_
    refine kO ?_
    refine WpD.condF rfl ?_
    refine kO ?_
    refine WpD.exit ?_
    refine kO ?_
    refine jr<|jm jj<|jE jj<|jm jj<|jE jj<|jS (bSu jj jj e4)<|jm jj<|jn ?_
    refine kO ?_
    refine WpD.loop (α := {p : Nat × List Nat × Nat // p.1 ≤ x.length - y.length ∧ SumInv x y (y.length + p.1) p.2.1 p.2.2}) (fun p => ⟨[(0, .one (mag x)), (1, .one (mag y)), (5, .own 19 0 (x.length + 1) (x.length + 1)), (6, .one (ex (.int .u64 (p.1.2.2 : Int)))), (50, .one (ex (.int .i64 ((x.length - y.length : Nat) : Int)))), (51, .one (ex (.int .i64 (p.1.1 : Int))))], [(19, (p.1.2.1 ++ List.replicate (x.length + 1 - (y.length + p.1.1)) 0).map lb)]⟩) (fun p => x.length - y.length - p.1.1) ⟨(0, A, c), Nat.zero_le _, hS⟩ ?_ ?_
    ·
     exact Sub.mk sJ sJ
    ·clear hA hAl hc hS b1 hk e4 hlt
     rintro ⟨⟨k, A, c⟩, hk, hS⟩
     simp only at hk hS
     dsimp only
     obtain ⟨hA, hAl, hc, _⟩ := id hS
     by_cases hlt : k < x.length - y.length
     ·obtain ⟨u, hu⟩ : ∃ u, x[y.length + k]? = some u := ⟨_, List.getElem?_eq_getElem oM⟩
      have huB := hlx.get hu
      rw [aZv] at huB
      have hS' := SumInv.step hlx hly hS
      rw [hu, Option.getD_some, show y[y.length + k]? = none from List.getElem?_eq_none oM, Option.getD_none, Nat.add_zero] at hS'
      have b1 : decide ((k : Int) < ((x.length - y.length : Nat) : Int)) = true := decide_eq_true oM
      have e5 : IntKind.i64.wrap ((y.length : Int) + (k : Int)) = ((y.length + k : Nat) : Int) := by rw [w64 oM oM]; omega
      have e8 : IntKind.u64.wrap (u : Int) = (u : Int) := wu64 oM oM
      have e9 : IntKind.u64.wrap ((c : Int) + (u : Int)) = ((c + u : Nat) : Int) := by rw [wu64 oM oM]; omega
      have hkn : y.length + k < x.length + 1 := oM
      have hm : x.length + 1 - (y.length + k) = (x.length - (y.length + k)) + 1 := oM
      have hsetl : y.length + k < ((A ++ List.replicate (x.length + 1 - (y.length + k)) 0).map lb).length := by simp; omega
      have hset : ((A ++ List.replicate (x.length + 1 - (y.length + k)) 0).map lb).set (y.length + k) (ex (.int .u32 (((c + u) % B : Nat) : Int))) = ((A ++ [(c + u) % B]) ++ List.replicate (x.length + 1 - (y.length + (k + 1))) 0).map lb := by
       rw [hm, show x.length + 1 - (y.length + (k + 1)) = x.length - (y.length + k) by omega]; exact kZ6 hA
      have e13 : IntKind.i64.wrap ((k : Int) + 1) = ((k + 1 : Nat) : Int) := by rw [w64 oM oM]; omega
      refine kO ?_
      refine jr<|jS (bVl jj jj b1)<|jn ?_
      refine kO ?_
      refine WpD.condT rfl ?_
      refine kO ?_
      refine WpD.skip ?_
      refine kO ?_
      refine jr<|jm jj<|ja jj<|jn ?_
      refine kO ?_
      refine jr<|jm jj<|jm jj<|jm jj<|jE jj<|jm jj<|jS (bAd jj jj e5)<|jS (aZs jj jj aM)<|jS (aZh jj jj)<|jS (bCv jj e8)<|jS (bAd jj jj e9)<|ja jj<|jn ?_
      refine kO ?_
      refine jr<|jm jj<|jm jj<|jE jj<|jm jj<|jS (bAd jj jj e5)<|jm jj<|jS (bCv jj (u32w _))<|jS (aZO jj jj aO)<|jO (aZK jj jj jj aM aM)<|jn ?_
      refine kO ?_
      refine jr<|jm jj<|jS (aZf jj jj (fun w => aZH w _ _ _ _ _ _ _ aW) (vint (gZ2 _)))<|ja jj<|jn ?_
      refine kO ?_
      refine jr<|jS (bAd jj jj e13)<|jm jj<|jn ?_
      refine ⟨⟨(k + 1, A ++ [(c + u) % B], (c + u) / B), hlt, hS'⟩, ?_, by simp only; omega⟩
      exact Sub.mk sJ sJ
     ·have b1 : decide ((k : Int) < ((x.length - y.length : Nat) : Int)) = false := decide_eq_false oM
      have hkx : y.length + k = x.length := oM
      rw [hkx] at hS hA ⊢
      obtain ⟨d1, d2⟩ := SumInv.done hS (Nat.le_refl _) hle
      have hsetl : x.length < ((A ++ List.replicate (x.length + 1 - x.length) 0).map lb).length := by simp; omega
      have hxl : x.length < x.length + 1 := oM
      have hcB : ((c % B : Nat) : Int) = (c : Int) := by rw [aZv]; omega
      have hset : ((A ++ List.replicate (x.length + 1 - x.length) 0).map lb).set x.length (ex (.int .u32 (c : Int))) = (A ++ [c]).map lb := by
       rw [show x.length + 1 - x.length = 0 + 1 by omega, show (A ++ [c]).map lb = ((A ++ [c]) ++ List.replicate 0 0).map lb by simp]; exact kZ6 hA
      have C1 := cZx En (A ++ [c]) d1 (by simp; omega)
      rw [d2] at C1
      have hlen : (A ++ [c]).length = x.length + 1 := by simp; omega
      refine kO ?_
      refine jr<|jS (bVl jj jj b1)<|jn ?_
      refine kO ?_
      refine WpD.condF rfl ?_
      refine kO ?_
      refine WpD.exit ?_
      refine kO ?_
      refine jr<|jm jj<|jm jj<|jE jj<|jm jj<|jS (bCv jj ((u32w _).trans hcB))<|jS (aZO jj jj aO)<|jO (aZK jj jj jj aM aM)<|jn ?_
      refine WpD.sub (τ := ⟨[(5, .one (mag (A ++ [c])))], []⟩) ?_ ?_
      ·
       refine Sub.pub 19 rfl rfl ?_ ?_ rfl
       ·repeat (first | exact trivial | refine ⟨.inl ⟨pK, trivial⟩, ?_⟩ | refine ⟨.inl ⟨⟨_, rfl, rfl⟩, Option.some_ne_none _⟩, ?_⟩ | refine ⟨.inl ⟨⟨_, rfl, rfl⟩, ⟨Option.some_ne_none _, Option.some_ne_none _⟩⟩, ?_⟩ | refine ⟨.inr (.inl ⟨_, _, _, _, rfl, rfl, by rw [← hlen]; exact bZv oM d1⟩), ?_⟩ | refine ⟨.inr (.inr (.inl ⟨_, _, _, rfl, rfl, by rw [← hlen]; exact bZv oM d1⟩)), ?_⟩)
       ·repeat (first | exact trivial | refine jz ?_ | refine jy rfl ?_)
      refine kO ?_
      refine jr<|jm jj<|jS (aZa C1 tA)<|ja jj<|jn ?_
      refine kO ?_
      refine WpD.ret ?_
      exact rtT rfl jj
def eZk (x y : Nat) : Nat := if x < y then 18446744073709551616 + x - y else x - y
set_option maxHeartbeats 1000000 in
theorem nsub (a b : List Nat) (ha : a.length ≤ 549755813888) (hle : b.length ≤ a.length) (hla : Lm a) (hlb : Lm b) (hval : val b ≤ val a) : Fn Tryz.prog En 172 [mag a, mag b] (mag (digs (val a - val b))) := by
 refine aZb Tryz.func172 rfl Tryz.ntmps172 rfl ?_
 intro w0 h0
 refine kO ?_
 refine jr<|ja jj<|jn ?_
 refine kO ?_
 refine jr<|jm jj<|jE jj<|jT (dZC jj jj jj jj oM oM)<|ja jj<|jn ?_
 refine kO ?_
 refine jr<|ja jj<|jn ?_
 refine kO ?_
 refine jr<|jm jj<|jE jj<|jm jj<|jn ?_
 refine kO ?_
 refine WpD.loop (α := {p : Nat × List Nat × Nat // p.1 ≤ a.length ∧ DifInv a b p.1 p.2.1 p.2.2}) (fun p => ⟨[(0, .one (mag a)), (1, .one (mag b)), (5, .own 11 0 a.length a.length), (6, .one (ex (.int .u64 (p.1.2.2 : Int)))), (13, .one (ex (.int .i64 (a.length : Int)))), (14, .one (ex (.int .i64 (p.1.1 : Int))))], [(11, (p.1.2.1 ++ List.replicate (a.length - p.1.1) 0).map lb)]⟩) (fun p => a.length - p.1.1) ⟨(0, [], 0), Nat.zero_le _, DifInv.start a b⟩ ?_ ?_
 ·
  exact Sub.mk sJ ⟨.inl ⟨_, jj, PsLe.of_eq (fZb _)⟩, trivial⟩
 ·rintro ⟨⟨k, A, c⟩, hk, hS⟩
  simp only at hk hS
  dsimp only
  obtain ⟨hA, hAl, hc, _⟩ := id hS
  by_cases hlt : k < a.length
  ·obtain ⟨u, hu⟩ : ∃ u, a[k]? = some u := ⟨_, List.getElem?_eq_getElem oM⟩
   have huB := hla.get hu
   rw [aZv] at huB
   obtain ⟨y, hy⟩ : ∃ y, b[k]?.getD 0 = y := ⟨_, rfl⟩
   have hyB : y < B := by rw [← hy]; exact cZ9 hlb k
   rw [aZv] at hyB
   have hS' := DifInv.step hla hlb hS
   rw [hu, hy, Option.getD_some] at hS'
   obtain ⟨tt, htt⟩ : ∃ tt, eZk u (c + y) = tt := ⟨_, rfl⟩
   have t1 : tt % B = difD u (c + y) := by rw [← htt]; unfold eZk difD; rw [aZv]; split <;> omega
   have t2 : (tt : Int).fdiv (2 ^ (min (63 : Int).toNat IntKind.u64.bits)) = ((difB u (c + y) : Nat) : Int) := by
    show (tt : Int).fdiv (2 ^ 63) = _
    rw [Int.fdiv_eq_ediv_of_nonneg _ aD, ← htt]
    unfold eZk difB
    split <;> omega
   have b1 : decide ((k : Int) < (a.length : Int)) = true := decide_eq_true oM
   have e4 : IntKind.u64.wrap (u : Int) = (u : Int) := wu64 oM oM
   have hm : a.length - k = (a.length - (k + 1)) + 1 := oM
   have hsetl : k < ((A ++ List.replicate (a.length - k) 0).map lb).length := by simp; omega
   have hset : ((A ++ List.replicate (a.length - k) 0).map lb).set k (ex (.int .u32 ((difD u (c + y) : Nat) : Int))) = ((A ++ [difD u (c + y)]) ++ List.replicate (a.length - (k + 1)) 0).map lb := by
    rw [hm]; exact kZ6 hA
   have e13 : IntKind.i64.wrap ((k : Int) + 1) = ((k + 1 : Nat) : Int) := by rw [w64 oM oM]; omega
   refine kO ?_
   refine jr<|jS (bVl jj jj b1)<|jn ?_
   refine kO ?_
   refine WpD.condT rfl ?_
   refine kO ?_
   refine WpD.skip ?_
   refine kO ?_
   refine jr<|jm jj<|ja jj<|jn ?_
   refine kO ?_
   refine jr<|jm jj<|jm jj<|jS (aZs jj jj aM)<|jS (aZh jj jj)<|jS (bCv jj e4)<|jm jj<|jS (aZ6 jj jj (fun w => cZy w _ _ _ _ _ _))<|ja jj<|jn ?_
   refine WpD.cut (α := Unit) (fun _ => ⟨[(0, .one (mag a)), (1, .one (mag b)), (5, .own 11 0 a.length a.length), (7, .one (ex (.int .i64 (k : Int)))), (8, .one (ex (.int .u64 (tt : Int)))), (13, .one (ex (.int .i64 (a.length : Int)))), (14, .one (ex (.int .i64 (k : Int))))], [(11, (A ++ List.replicate (a.length - k) 0).map lb)]⟩) ?_ ?_
   ·by_cases hkb : k < b.length
    ·have b2 : decide ((k : Int) < (b.length : Int)) = true := decide_eq_true oM
     have hy' : b[k]? = some y := by rw [← hy, List.getElem?_eq_getElem hkb]; rfl
     have e5 : IntKind.u64.wrap (y : Int) = (y : Int) := wu64 oM oM
     have e6 : IntKind.u64.wrap (IntKind.u64.wrap ((u : Int) - (c : Int)) - (y : Int)) = (tt : Int) := by
      rw [IntKind.wrap_u64, IntKind.wrap_u64, ← htt]; unfold eZk; split <;> omega
     refine kO ?_
     refine jr<|jm jj<|jm jj<|jE jj<|jS (bVl jj jj b2)<|jn ?_
     refine kO ?_
     refine WpD.condT rfl ?_
     refine kO ?_
     refine jr<|jm jj<|jm jj<|jm jj<|jS (aZs jj jj aM)<|jS (aZh jj jj)<|jS (bCv jj e5)<|jS (bSu jj jj e6)<|ja jj<|jn ?_
     refine ⟨(), ?_⟩
     exact Sub.mk sJ sJ
    ·have b2 : decide ((k : Int) < (b.length : Int)) = false := decide_eq_false oM
     have hy0 : y = 0 := by rw [← hy, List.getElem?_eq_none oM]; rfl
     have e6 : IntKind.u64.wrap ((u : Int) - (c : Int)) = (tt : Int) := by
      rw [IntKind.wrap_u64, ← htt, hy0]; unfold eZk; split <;> omega
     rw [e6]
     refine kO ?_
     refine jr<|jm jj<|jm jj<|jE jj<|jS (bVl jj jj b2)<|jn ?_
     refine kO ?_
     refine WpD.condF rfl ?_
     refine kO ?_
     refine WpD.skip ?_
     refine ⟨(), ?_⟩
     exact Sub.mk sJ sJ
   ·rintro ⟨⟩
    have e3 : IntKind.u32.wrap (tt : Int) = ((difD u (c + y) : Nat) : Int) := by rw [u32w, t1]
    refine kO ?_
    refine jr<|jm jj<|jm jj<|jm jj<|jS (bCv jj e3)<|jS (aZO jj jj aO)<|jO (aZK jj jj jj aM aM)<|jn ?_
    refine kO ?_
    refine jr<|jm jj<|jS (aZf jj jj (fun w => aZH w _ _ _ _ _ _ _ aW) (vint t2))<|ja jj<|jn ?_
    refine kO ?_
    refine jr<|jS (bAd jj jj e13)<|jm jj<|jn ?_
    refine ⟨⟨(k + 1, A ++ [difD u (c + y)], difB u (c + y)), hlt, hS'⟩, ?_, by simp only; omega⟩
    exact Sub.mk sJ sJ
  ·have b1 : decide ((k : Int) < (a.length : Int)) = false := decide_eq_false oM
   have hka : k = a.length := oM
   subst hka
   obtain ⟨d1, d2⟩ := DifInv.done hS (Nat.le_refl _) hle hval
   have C1 := cZx En A d1 oM
   rw [d2] at C1
   rw [Nat.sub_self, List.replicate_zero, List.append_nil]
   refine kO ?_
   refine jr<|jS (bVl jj jj b1)<|jn ?_
   refine kO ?_
   refine WpD.condF rfl ?_
   refine kO ?_
   refine WpD.exit ?_
   refine WpD.sub (τ := ⟨[(5, .one (mag A))], []⟩) ?_ ?_
   ·
    refine Sub.pub 11 rfl rfl ?_ ?_ rfl
    ·repeat (first | exact trivial | refine ⟨.inl ⟨pK, trivial⟩, ?_⟩ | refine ⟨.inl ⟨⟨_, rfl, rfl⟩, Option.some_ne_none _⟩, ?_⟩ | refine ⟨.inl ⟨⟨_, rfl, rfl⟩, ⟨Option.some_ne_none _, Option.some_ne_none _⟩⟩, ?_⟩ | refine ⟨.inr (.inl ⟨_, _, _, _, rfl, rfl, by rw [← hA]; exact bZv (Nat.le_refl _) d1⟩), ?_⟩ | refine ⟨.inr (.inr (.inl ⟨_, _, _, rfl, rfl, by rw [← hA]; exact bZv (Nat.le_refl _) d1⟩)), ?_⟩)
    ·repeat (first | exact trivial | refine jz ?_ | refine jy rfl ?_)
   refine kO ?_
   refine jr<|jm jj<|jS (aZa C1 tA)<|ja jj<|jn ?_
   refine kO ?_
   refine WpD.ret ?_
   exact rtT rfl jj
end
end
section
open Go.RowKit Limb
theorem fZP {l : List Nat} (h : Lm l) (hl : l.length ≤ 1) : val l < B := by
 have h1 := bZ2 h
 have : B ^ l.length ≤ B ^ 1 := Nat.pow_le_pow_right aZY hl
 rw [Nat.pow_one] at this
 omega
theorem getL {L : List Nat} {i x : Nat} (h : L[i]? = some x) : (L.map lb)[i]? = some (lb x) := by rw [List.getElem?_map, h]; rfl
section
variable (En : Ev)
theorem kZN (a b : List Nat) (ha : a.length ≤ 1) (hb : b.length ≤ 1) (hla : Lm a) (hlb : Lm b) : Fn Tryz.prog En 97 [mag a, mag b] (mag (digs (val a * val b))) := by
 have C1 := kZM En a hla oM
 have C2 := kZM En b hlb oM
 have h1 := fZP hla ha
 have h2 := fZP hlb hb
 have h3 := (dZ6 aZY h1 h2 aZY).2
 have C3 := cZs En (val a * val b) oM
 have b1 : decide ((a.length : Int) ≤ 1) = true := decide_eq_true oM
 have b2 : decide ((b.length : Int) ≤ 1) = true := decide_eq_true oM
 have e4 : IntKind.u64.wrap (((val a : Nat) : Int) * ((val b : Nat) : Int)) = ((val a * val b : Nat) : Int) := by rw [← Int.natCast_mul]; exact wu64 oM oM
 refine aZb Tryz.func97 rfl Tryz.ntmps97 rfl ?_
 intro w0 h0
 refine kO ?_
 refine jr<|ja jj<|jn ?_
 refine kO ?_
 refine jr<|jm jj<|jE jj<|jS (bVe jj jj b1)<|jm jj ?_
 first | refine jgm jj ?_ | refine jk ?_
 first | refine jg (bZo jj CSlice.ok) ?_ | refine jk ?_
 first | refine jg (bVe jj jj b2) ?_ | refine jk ?_
 first | refine jq jj jj ?_ | refine jQ jj jj ?_
 refine jn ?_
 refine kO ?_
 refine WpD.condT rfl ?_
 refine kO ?_
 refine jr<|jm jj<|jS (aZa C1 tA)<|jm jj<|jS (aZa C2 tA)<|jS (bMu jj jj e4)<|jS (aZa C3 tA)<|ja jj<|jn ?_
 refine kO ?_
 refine WpD.ret ?_
 exact rtT rfl jj
set_option maxHeartbeats 2000000 in
theorem oZ2 (a b : List Nat) (ha : a.length ≤ 274877906944) (hb : b.length ≤ 274877906944) (hbig : ¬ (a.length ≤ 1 ∧ b.length ≤ 1)) (hla : Lm a) (hlb : Lm b) : Fn Tryz.prog En 97 [mag a, mag b] (mag (digs (val a * val b))) := by
 refine aZb Tryz.func97 rfl Tryz.ntmps97 rfl ?_
 intro w0 h0
 refine kO ?_
 refine jr<|ja jj<|jn ?_
 refine WpD.cut (α := Unit) (fun _ => ⟨[(0, .one (mag a)), (1, .one (mag b))], []⟩) ?_ ?_
 ·by_cases h1 : a.length ≤ 1
  ·have b1 : decide ((a.length : Int) ≤ 1) = true := decide_eq_true oM
   have b2 : decide ((b.length : Int) ≤ 1) = false := decide_eq_false oM
   refine kO ?_
   refine jr<|jm jj<|jE jj<|jS (bVe jj jj b1)<|jm jj ?_
   first | refine jgm jj ?_ | refine jk ?_
   first | refine jg (bZo jj CSlice.ok) ?_ | refine jk ?_
   first | refine jg (bVe jj jj b2) ?_ | refine jk ?_
   first | refine jq jj jj ?_ | refine jQ jj jj ?_
   refine jn ?_
   refine kO ?_
   refine WpD.condF rfl ?_
   refine kO ?_
   refine WpD.skip ?_
   refine ⟨(), ?_⟩
   exact Sub.mk sJ sJ
  ·have b1 : decide ((a.length : Int) ≤ 1) = false := decide_eq_false oM
   refine kO ?_
   refine jr<|jm jj<|jE jj<|jS (bVe jj jj b1)<|jm jj ?_
   first | refine jgm jj ?_ | refine jk ?_
   first | refine jg (bZo jj CSlice.ok) ?_ | refine jk ?_
   first | refine jg (aZ6 jj jj (fun w => eZq w _ _ _ _ _ _)) ?_ | refine jk ?_
   first | refine jq jj jj ?_ | refine jQ jj jj ?_
   refine jn ?_
   refine kO ?_
   refine WpD.condF rfl ?_
   refine kO ?_
   refine WpD.skip ?_
   refine ⟨(), ?_⟩
   exact Sub.mk sJ sJ
 rintro ⟨⟩
 have e4 : IntKind.i64.wrap ((a.length : Int) + (b.length : Int)) = ((a.length + b.length : Nat) : Int) := by rw [w64 oM oM]; omega
 refine kO ?_
 refine jr<|jm jj<|jE jj<|jm jj<|jE jj<|jS (bAd jj jj e4)<|jT (dZC jj jj jj jj oM oM)<|ja jj<|jn ?_
 refine kO ?_
 refine jr<|jm jj<|jE jj<|jm jj<|jn ?_
 refine kO ?_
 refine WpD.loop (α := {p : Nat × List Nat // p.1 ≤ a.length ∧ ProdInv a b p.1 p.2}) (fun p => ⟨[(1, .one (mag b)), (5, .own 31 0 (a.length + b.length) (a.length + b.length)), (32, .one (mag a)), (33, .one (ex (.int .i64 (a.length : Int)))), (34, .one (ex (.int .i64 (p.1.1 : Int))))], [(31, (p.1.2 ++ List.replicate (a.length - p.1.1) 0).map lb)]⟩) (fun p => a.length - p.1.1) ⟨(0, List.replicate b.length 0), Nat.zero_le _, ProdInv.start a b⟩ ?_ ?_
 ·have hz : List.replicate (a.length + b.length) (ex (.int .u32 0)) = (List.replicate b.length 0 ++ List.replicate (a.length - 0) 0).map lb := by
   rw [fZb, List.replicate_append_replicate, Nat.sub_zero, Nat.add_comm]
  exact Sub.mk sJ ⟨.inl ⟨_, jj, PsLe.of_eq hz⟩, trivial⟩
 rintro ⟨⟨i, Q⟩, hi, hP⟩
 simp only at hi hP
 dsimp only
 obtain ⟨hQl, hQm, hQv⟩ := id hP
 by_cases hlt : i < a.length
 ·obtain ⟨x, hx⟩ : ∃ x, a[i]? = some x := ⟨_, List.getElem?_eq_getElem hlt⟩
  have hxB := hla.get hx
  have b1 : decide ((i : Int) < (a.length : Int)) = true := decide_eq_true oM
  have e13 : IntKind.i64.wrap ((i : Int) + 1) = ((i + 1 : Nat) : Int) := by rw [w64 oM oM]; omega
  have hrep : List.replicate (a.length - i) 0 = 0 :: List.replicate (a.length - (i + 1)) 0 := by rw [show a.length - i = (a.length - (i + 1)) + 1 by omega, List.replicate_succ]
  refine kO ?_
  refine jr<|jS (bVl jj jj b1)<|jn ?_
  refine kO ?_
  refine WpD.condT rfl ?_
  refine kO ?_
  refine WpD.skip ?_
  refine kO ?_
  refine jr<|jm jj<|jS (aZs jj jj aM)<|jS (aZh jj jj)<|ja jj<|ja jj<|jn ?_
  by_cases hx0 : x = 0
  ·have b2 : ((x : Int) == 0) = true := by rw [hx0]; rfl
   rw [hx0] at hx
   refine kO ?_
   refine jr<|jm jj<|jS (bVq jj jj b2)<|jn ?_
   refine kO ?_
   refine WpD.condT rfl ?_
   refine kO ?_
   refine WpD.exit ?_
   refine kO ?_
   refine jr<|jS (bAd jj jj e13)<|jm jj<|jn ?_
   refine ⟨⟨(i + 1, Q ++ [0]), hlt, hP.zero hx⟩, ?_, by simp only; omega⟩
   have hz : (Q ++ List.replicate (a.length - i) 0).map lb = ((Q ++ [0]) ++ List.replicate (a.length - (i + 1)) 0).map lb := by rw [hrep]; simp
   exact Sub.mk sJ ⟨.inl ⟨_, jj, PsLe.of_eq hz⟩, trivial⟩
  ·have b2 : ((x : Int) == 0) = false := by rw [beq_eq_false_iff_ne]; omega
   have e5 : IntKind.i64.wrap ((i : Int) + (b.length : Int)) = (i : Int) + (b.length : Int) := w64 oM oM
   have e6 : IntKind.i64.wrap ((i : Int) + (b.length : Int) + 1) = ((i + b.length + 1 : Nat) : Int) := by rw [w64 oM oM]; omega
   refine kO ?_
   refine jr<|jm jj<|jS (bVq jj jj b2)<|jn ?_
   refine kO ?_
   refine WpD.condF rfl ?_
   refine kO ?_
   refine WpD.skip ?_
   refine kO ?_
   refine jr<|jm jj<|jm jj<|jm jj<|jm jj<|jE jj<|jS (bAd jj jj e5)<|jS (bAd jj jj e6)<|jS (fZU jj jj jj oM oM oM)<|ja jj<|jn ?_
   refine kO ?_
   refine jr<|ja jj<|jn ?_
   refine kO ?_
   refine jr<|jm jj<|jE jj<|jm jj<|jn ?_
   refine kO ?_
   refine WpD.loop (α := {p : Nat × List Nat × Nat // p.1 ≤ b.length ∧ MulInv (Q.drop i) b x p.1 p.2.1 p.2.2}) (fun p => ⟨[(1, .one (mag b)), (5, .own 31 0 (a.length + b.length) (a.length + b.length)), (7, .one (lb x)), (8, .own 31 (0 + i) (i + b.length + 1 - i) (a.length + b.length - i)), (9, .one (ex (.int .u64 (p.1.2.2 : Int)))), (32, .one (mag a)), (33, .one (ex (.int .i64 (a.length : Int)))), (34, .one (ex (.int .i64 (i : Int)))), (49, .one (mag b)), (50, .one (ex (.int .i64 (b.length : Int)))), (51, .one (ex (.int .i64 (p.1.1 : Int))))], [(31, (Q.take i ++ (p.1.2.1 ++ ((Q.drop i).drop p.1.1 ++ List.replicate (a.length - i) 0))).map lb)]⟩) (fun p => b.length - p.1.1) ⟨(0, [], 0), Nat.zero_le _, MulInv.start _ _ _⟩ ?_ ?_
   ·have hz : (Q ++ List.replicate (a.length - i) 0).map lb = (Q.take i ++ ([] ++ ((Q.drop i).drop 0 ++ List.replicate (a.length - i) 0))).map lb := by
     rw [List.drop_zero, List.nil_append, ← List.append_assoc, List.take_append_drop]
    exact Sub.mk sJ ⟨.inl ⟨_, jj, PsLe.of_eq hz⟩, trivial⟩
   rintro ⟨⟨j, N, c⟩, hj, hM⟩
   simp only at hj hM
   dsimp only
   obtain ⟨hNl, hNm, hcB, _⟩ := id hM
   have hti : (Q.take i).length = i := by simp; omega
   have hRl : (Q.drop i).length = b.length := by simp; omega
   have hRm := hQm.drop i
   by_cases hjb : j < b.length
   ·obtain ⟨y, hy⟩ : ∃ y, b[j]? = some y := ⟨_, List.getElem?_eq_getElem hjb⟩
    obtain ⟨r, hr⟩ : ∃ r, (Q.drop i)[j]? = some r := ⟨_, List.getElem?_eq_getElem oM⟩
    have hyB := hlb.get hy
    have hrB := hRm.get hr
    obtain ⟨m1, m2⟩ := dZ6 hcB hxB hyB hrB
    have hM' := MulInv.step hxB hRm hlb hy hr hM
    rw [aZv] at hxB hyB hrB hcB m1
    have b3 : decide ((j : Int) < (b.length : Int)) = true := decide_eq_true oM
    have e2 : IntKind.u64.wrap (x : Int) = (x : Int) := wu64 oM oM
    have e4' : IntKind.u64.wrap (y : Int) = (y : Int) := wu64 oM oM
    have e5' : IntKind.u64.wrap ((x : Int) * (y : Int)) = ((x * y : Nat) : Int) := by rw [← Int.natCast_mul]; exact wu64 oM oM
    have e10 : IntKind.u64.wrap (r : Int) = (r : Int) := wu64 oM oM
    have e11 : IntKind.u64.wrap (((x * y : Nat) : Int) + (r : Int)) = ((x * y + r : Nat) : Int) := by rw [wu64 oM oM]; omega
    have e12 : IntKind.u64.wrap ((c : Int) + ((x * y + r : Nat) : Int)) = ((c + (x * y + r) : Nat) : Int) := by rw [wu64 oM oM]; omega
    have hdr : (Q.drop i).drop j = r :: (Q.drop i).drop (j + 1) := by rw [List.drop_eq_getElem_cons (by omega : j < (Q.drop i).length), (List.getElem?_eq_some_iff.1 hr).2]
    have hidx : j < i + b.length + 1 - i := oM
    have hget : ((Q.take i ++ (N ++ ((Q.drop i).drop j ++ List.replicate (a.length - i) 0))).map lb)[0 + i + j]? = some (lb r) := by
     refine getL ?_
     rw [List.getElem?_append_right oM, hti, List.getElem?_append_right oM, hNl, hdr, show 0 + i + j - i - j = 0 by omega]
     rfl
    have hsetl : 0 + i + j < ((Q.take i ++ (N ++ ((Q.drop i).drop j ++ List.replicate (a.length - i) 0))).map lb).length := by simp only [List.length_map, List.length_append, hti, hNl, List.length_drop, List.length_replicate]; omega
    have hset : ((Q.take i ++ (N ++ ((Q.drop i).drop j ++ List.replicate (a.length - i) 0))).map lb).set (0 + i + j) (ex (.int .u32 (((c + (x * y + r)) % B : Nat) : Int))) = (Q.take i ++ ((N ++ [(c + (x * y + r)) % B]) ++ ((Q.drop i).drop (j + 1) ++ List.replicate (a.length - i) 0))).map lb := by
     rw [hdr]
     have := setL (Q.take i ++ N) ((Q.drop i).drop (j + 1) ++ List.replicate (a.length - i) 0) r ((c + (x * y + r)) % B)
     rw [List.length_append, hti, hNl] at this
     rw [show 0 + i + j = i + j by omega]
     simp only [List.append_assoc, List.cons_append, List.nil_append] at this ⊢
     exact this
    have e16 : IntKind.i64.wrap ((j : Int) + 1) = ((j + 1 : Nat) : Int) := by rw [w64 oM oM]; omega
    refine kO ?_
    refine jr<|jS (bVl jj jj b3)<|jn ?_
    refine kO ?_
    refine WpD.condT rfl ?_
    refine kO ?_
    refine WpD.skip ?_
    refine kO ?_
    refine jr<|jm jj<|jS (aZs jj jj aM)<|jS (aZh jj jj)<|ja jj<|ja jj<|jn ?_
    refine kO ?_
    refine jr<|jm jj<|jm jj<|jS (bCv jj e2)<|jm jj<|jS (bCv jj e4')<|jS (bMu jj jj e5')<|jm jj<|jm jj<|jS (bZi jj jj aO)<|jS (aZ9 jj jj aM)<|jS (bCv jj e10)<|jS (bAd jj jj e11)<|jS (bAd jj jj e12)<|ja jj<|jn ?_
    refine kO ?_
    refine jr<|jm jj<|jm jj<|jm jj<|jS (bCv jj (u32w _))<|jS (bZi jj jj aO)<|jO (aZK jj jj jj aM aM)<|jn ?_
    refine kO ?_
    refine jr<|jm jj<|jS (aZf jj jj (fun w => aZH w _ _ _ _ _ _ _ aW) (vint (gZ2 _)))<|ja jj<|jn ?_
    refine kO ?_
    refine jr<|jS (bAd jj jj e16)<|jm jj<|jn ?_
    refine ⟨⟨(j + 1, N ++ [(c + (x * y + r)) % B], (c + (x * y + r)) / B), hjb, hM'⟩, ?_, by simp only; omega⟩
    exact Sub.mk sJ sJ
   ·have b3 : decide ((j : Int) < (b.length : Int)) = false := decide_eq_false oM
    have hjb' : j = b.length := oM
    subst hjb'
    have hidx : b.length < i + b.length + 1 - i := oM
    have hdr : (Q.drop i).drop b.length = [] := List.drop_eq_nil_of_le oM
    have hcw : ((c % B : Nat) : Int) = (c : Int) := by rw [Nat.mod_eq_of_lt hcB]
    have hsetl : 0 + i + b.length < ((Q.take i ++ (N ++ ((Q.drop i).drop b.length ++ List.replicate (a.length - i) 0))).map lb).length := by simp only [List.length_map, List.length_append, hti, hNl, List.length_drop, List.length_replicate]; omega
    have hset : ((Q.take i ++ (N ++ ((Q.drop i).drop b.length ++ List.replicate (a.length - i) 0))).map lb).set (0 + i + b.length) (ex (.int .u32 (c : Int))) = ((Q.take i ++ N ++ [c]) ++ List.replicate (a.length - (i + 1)) 0).map lb := by
     rw [hdr, hrep]
     have := setL (Q.take i ++ N) (List.replicate (a.length - (i + 1)) 0) 0 c
     rw [List.length_append, hti, hNl] at this
     rw [show 0 + i + b.length = i + b.length by omega]
     simp only [List.append_assoc, List.cons_append, List.nil_append] at this ⊢
     exact this
    refine kO ?_
    refine jr<|jS (bVl jj jj b3)<|jn ?_
    refine kO ?_
    refine WpD.condF rfl ?_
    refine kO ?_
    refine WpD.exit ?_
    refine kO ?_
    refine jr<|jm jj<|jm jj<|jE jj<|jm jj<|jS (bCv jj ((u32w _).trans hcw))<|jS (bZi jj jj aO)<|jO (aZK jj jj jj aM aM)<|jn ?_
    refine kO ?_
    refine jr<|jS (bAd jj jj e13)<|jm jj<|jn ?_
    refine ⟨⟨(i + 1, Q.take i ++ N ++ [c]), hlt, hP.step hx hM⟩, ?_, by simp only; omega⟩
    exact Sub.mk sJ sJ
 ·have b1 : decide ((i : Int) < (a.length : Int)) = false := decide_eq_false oM
  have hia : i = a.length := oM
  subst hia
  obtain ⟨d1, d2⟩ := hP.done
  have C1 := cZx En Q d1 oM
  rw [d2] at C1
  rw [Nat.sub_self, List.replicate_zero, List.append_nil]
  refine kO ?_
  refine jr<|jS (bVl jj jj b1)<|jn ?_
  refine kO ?_
  refine WpD.condF rfl ?_
  refine kO ?_
  refine WpD.exit ?_
  refine WpD.sub (τ := ⟨[(5, .one (mag Q))], []⟩) ?_ ?_
  ·
   refine Sub.pub 31 rfl rfl ?_ ?_ rfl
   ·repeat (first | exact trivial | refine ⟨.inl ⟨pK, trivial⟩, ?_⟩ | refine ⟨.inl ⟨⟨_, rfl, rfl⟩, Option.some_ne_none _⟩, ?_⟩ | refine ⟨.inl ⟨⟨_, rfl, rfl⟩, ⟨Option.some_ne_none _, Option.some_ne_none _⟩⟩, ?_⟩ | refine ⟨.inr (.inl ⟨_, _, _, _, rfl, rfl, by rw [← hQl]; exact bZv (Nat.le_refl _) d1⟩), ?_⟩ | refine ⟨.inr (.inr (.inl ⟨_, _, _, rfl, rfl, by rw [← hQl]; exact bZv (Nat.le_refl _) d1⟩)), ?_⟩)
   ·repeat (first | exact trivial | refine jz ?_ | refine jy rfl ?_)
  refine kO ?_
  refine jr<|jm jj<|jS (aZa C1 tA)<|ja jj<|jn ?_
  refine kO ?_
  refine WpD.ret ?_
  exact rtT rfl jj
theorem nmul (a b : List Nat) (ha : a.length ≤ 274877906944) (hb : b.length ≤ 274877906944) (hla : Lm a) (hlb : Lm b) : Fn Tryz.prog En 97 [mag a, mag b] (mag (digs (val a * val b))) := by
 by_cases h : a.length ≤ 1 ∧ b.length ≤ 1
 ·exact kZN En a b h.1 h.2 hla hlb
 ·exact oZ2 En a b ha hb h hla hlb
end
end
section
open Go.RowKit Limb
instance cbody124 : CBody Tryz.prog 124 := ⟨⟨_, Tryz.func124, rfl, by rfl⟩⟩
instance cbody188 : CBody Tryz.prog 188 := ⟨⟨_, Tryz.func188, rfl, by rfl⟩⟩
instance cbody198 : CBody Tryz.prog 198 := ⟨⟨_, Tryz.func198, rfl, by rfl⟩⟩
section
variable (En : Ev)
theorem eZw (l : List Nat) (hl : l ≠ []) (hlen : l.length ≤ 1099511627776) : FnG Tryz.prog En 124 ([mag l].map .one) [] (.own 7 0 l.length l.length) [(7, l.map lb)] := by
 have hm : l.length ≤ maxLen := by unfold maxLen; omega
 have hby : l.length * 4 ≤ 140737488355328 := oM
 refine aZr Tryz.func124 rfl Tryz.ntmps124 rfl ?_
 intro w0 h0 c
 refine kO ?_
 refine jr<|ja jj<|jn ?_
 refine kO ?_
 refine jr<|jm jj<|jS (rc_nilM hl jj)<|jn ?_
 refine kO ?_
 refine WpD.condF rfl ?_
 refine kO ?_
 refine WpD.skip ?_
 refine kO ?_
 refine jr<|jS (jZ5)<|jm jj<|jT (kZA jj jj hl hm hby rfl jj)<|ja jj<|jn ?_
 refine kO ?_
 refine WpD.ret ?_
 exact dZm rfl rfl rfl (Option.some_ne_none _) ⟨.inl pQ, trivial⟩
theorem jZK (l : List Nat) (hlm : Lm l) (hlen : l.length ≤ 1099511627776) : Fn Tryz.prog En 124 [mag l] (mag l) := by
 by_cases hl : l = []
 ·subst hl
  refine Fn.nil_or ?_ ?_
  ·
   refine aZb Tryz.func124 rfl Tryz.ntmps124 rfl ?_
   intro w0 h0
   refine kO ?_
   refine jr<|ja jj<|jn ?_
   refine kO ?_
   refine jr<|jm jj<|jS (rc_nilT jj)<|jn ?_
   refine kO ?_
   refine WpD.condT rfl ?_
   refine kO ?_
   refine jr<|ja jj<|jn ?_
   refine kO ?_
   refine WpD.ret ?_
   exact ret1 rfl (.tmp rfl) eZx
  ·
   refine aZb Tryz.func124 rfl Tryz.ntmps124 rfl ?_
   intro w0 h0
   refine kO ?_
   refine jr<|ja jj<|jn ?_
   refine kO ?_
   refine jr<|jm jj<|jS (rc_nilF jj)<|jn ?_
   refine kO ?_
   refine WpD.condF rfl ?_
   refine kO ?_
   refine WpD.skip ?_
   refine kO ?_
   refine jr<|jS (jZ5)<|jm jj<|jS (kZF jj jj)<|ja jj<|jn ?_
   refine kO ?_
   refine WpD.ret ?_
   exact rtT rfl jj
 ·exact FnG.const (eZw En l hl hlen) rfl (bZv (Nat.le_refl _) hlm)
theorem gZH {r x : Nat} (hr : r < B) (hx : x < B) : IntKind.u64.wrap ((BitVec.ofInt IntKind.u64.bits ((r * B : Nat) : Int) ||| BitVec.ofInt IntKind.u64.bits (x : Int)).toNat : Int) = ((r * B + x : Nat) : Int) := by
 have h := jZD (a := x) (b := r) (j := 32) hx (by rw [aZv] at hr; omega) oM
 have e : 2 ^ 32 * r = r * B := Nat.mul_comm _ _
 rw [e] at h
 rw [BitVec.or_comm, h, Nat.add_comm]
set_option maxHeartbeats 1000000 in
theorem jZJ (m Z : List Nat) (d cap : Nat) (hlen : m.length ≤ 1099511627776) (hm : Lm m) (hd : 0 < d) (hdB : d < B) :
  FnG Tryz.prog En 125 [.own 1000 0 m.length cap, .one (lb d)] [(1000, (m ++ Z).map lb)] (.one (lb (val m % d))) [(1000, (pd (val m / d) m.length ++ Z).map lb)] := by
 have hw : IntKind.i64.wrap ((m.length : Int) - 1) = (m.length : Int) - 1 := w64 oM oM
 refine aZr Tryz.func125 rfl Tryz.ntmps125 rfl ?_
 intro w0 h0 c
 refine kO ?_
 refine jr<|ja jj<|jn ?_
 refine kO ?_
 refine jr<|ja jj<|jn ?_
 refine kO ?_
 refine jr<|jm jj<|jS (aZE jj CSlice.ok)<|jS (bSu jj jj hw)<|ja jj<|jn ?_
 refine kO ?_
 refine WpD.loop (α := {p : Nat × List Nat × Nat // p.1 ≤ m.length ∧ DvInv m d p.1 p.2.1 p.2.2}) (fun p => ⟨[(0, .own 1000 0 m.length cap), (1, .one (lb d)), (5, .one (ex (.int .u64 (p.1.2.2 : Int)))), (6, .one (ex (.int .i64 ((p.1.1 : Int) - 1))))], [(1000, (m.take p.1.1 ++ (p.1.2.1 ++ Z)).map lb)]⟩) (fun p => p.1.1) ⟨(m.length, [], 0), Nat.le_refl _, DvInv.start m hd⟩ ?_ ?_
 ·have hz : (m ++ Z).map lb = (m.take m.length ++ ([] ++ Z)).map lb := by rw [List.take_length, List.nil_append]
  exact Sub.mk sJ ⟨.inl ⟨_, jj, PsLe.of_eq hz⟩, trivial⟩
 rintro ⟨⟨k, Q, r⟩, hk, hI⟩
 simp only at hk hI
 dsimp only
 cases k with
 | zero =>
  obtain ⟨rfl, rfl⟩ := hI.done
  have b1 : decide ((((0 : Nat) : Int) - 1) ≥ 0) = false := by decide
  have hrB : ((val m % d % B : Nat) : Int) = ((val m % d : Nat) : Int) := by rw [Nat.mod_eq_of_lt (Nat.lt_trans (Nat.mod_lt _ hd) hdB)]
  rw [List.take_zero, List.nil_append]
  refine kO ?_
  refine jr<|jm jj<|jS (bVh jj jj b1)<|jn ?_
  refine kO ?_
  refine WpD.condF rfl ?_
  refine kO ?_
  refine WpD.exit ?_
  refine kO ?_
  refine jr<|jm jj<|jS (bCv jj ((u32w _).trans hrB))<|ja jj<|jn ?_
  refine kO ?_
  refine WpD.ret ?_
  exact dZm rfl rfl (PLe.refl _) trivial ⟨.inl pQ, trivial⟩
 | succ j =>
  obtain ⟨x, hx⟩ : ∃ x, m[j]? = some x := ⟨_, List.getElem?_eq_getElem oM⟩
  have hxB := hm.get hx
  obtain ⟨hI', hqB⟩ := hI.step hx hm
  obtain ⟨hQl, hQm, hr, _⟩ := id hI
  have hrB : r < B := Nat.lt_trans hr hdB
  have b1 : decide ((j : Int) ≥ 0) = true := decide_eq_true oM
  have e1 : IntKind.u64.wrap ((r : Int) * 2 ^ (min (32 : Int).toNat IntKind.u64.bits)) = ((r * B : Nat) : Int) := by
   show IntKind.u64.wrap ((r : Int) * 2 ^ 32) = _
   rw [aZv] at hrB ⊢
   rw [wu64 oM oM]; omega
  have e6 : IntKind.u64.wrap (x : Int) = (x : Int) := wu64 oM (by rw [aZv] at hxB; omega)
  have e7 := gZH hrB hxB
  have hd0 : (d : Int) ≠ 0 := oM
  have ed : IntKind.u64.wrap (d : Int) = (d : Int) := wu64 oM (by rw [aZv] at hdB; omega)
  have eq : IntKind.u64.wrap (((r * B + x : Nat) : Int).tdiv (d : Int)) = (((r * B + x) / d : Nat) : Int) := by
   rw [Int.tdiv_eq_ediv_of_nonneg (Int.natCast_nonneg _), ← Int.natCast_ediv]
   exact wu64 (Int.natCast_nonneg _) (Int.ofNat_lt.2 (Nat.lt_trans hqB aD))
  have eqw : (((r * B + x) / d % B : Nat) : Int) = (((r * B + x) / d : Nat) : Int) := by rw [Nat.mod_eq_of_lt hqB]
  have er : ((r * B + x : Nat) : Int).tmod (d : Int) = (((r * B + x) % d : Nat) : Int) := by
   rw [Int.tmod_eq_emod_of_nonneg (Int.natCast_nonneg _), ← Int.natCast_emod]
  have hjl : j < m.length := oM
  have htk : (m.take (j + 1)) = m.take j ++ [x] := by rw [List.take_succ_eq_append_getElem oM, (List.getElem?_eq_some_iff.1 hx).2]
  have hjt : (m.take j).length = j := by simp; omega
  have hget : ((m.take (j + 1) ++ (Q ++ Z)).map lb)[j]? = some (lb x) := by
   refine getL ?_
   rw [htk, List.append_assoc, List.getElem?_append_right oM, hjt, Nat.sub_self]; rfl
  have hsetl : j < ((m.take (j + 1) ++ (Q ++ Z)).map lb).length := by simp; omega
  have hset : ((m.take (j + 1) ++ (Q ++ Z)).map lb).set j (ex (.int .u32 (((r * B + x) / d : Nat) : Int))) = (m.take j ++ (((r * B + x) / d :: Q) ++ Z)).map lb := by
   have := setL (m.take j) (Q ++ Z) x ((r * B + x) / d)
   rw [hjt] at this
   rw [htk]
   simp only [List.append_assoc, List.cons_append, List.nil_append] at this ⊢
   exact this
  have e8 : IntKind.i64.wrap ((j : Int) - 1) = (j : Int) - 1 := w64 oM oM
  rw [show (((j + 1 : Nat) : Int) - 1) = (j : Int) by omega]
  refine kO ?_
  refine jr<|jm jj<|jS (bVh jj jj b1)<|jn ?_
  refine kO ?_
  refine WpD.condT rfl ?_
  refine kO ?_
  refine WpD.skip ?_
  refine kO ?_
  refine jr<|jm jj<|jS (aZf jj jj (fun w => cZg w _ _ _ _ _ _ _ aW) (vint e1))<|jm jj<|jm jj<|jS (aZO jj jj aO)<|jS (aZ9 jj jj aM)<|jS (bCv jj e6)<|jS (aZf jj jj (fun w => cZP w _ _ _ _ _ _) (vint e7))<|ja jj<|jn ?_
  refine kO ?_
  refine jr<|jm jj<|jm jj<|jm jj<|jm jj<|jS (bCv jj ed)<|jS (bQu jj jj eq)<|jS (bCv jj ((u32w _).trans eqw))<|jS (aZO jj jj aO)<|jO (aZK jj jj jj aM aM)<|jn ?_
  refine kO ?_
  refine jr<|jm jj<|jm jj<|jS (bCv jj ed)<|jS (bRe jj jj er)<|ja jj<|jn ?_
  refine kO ?_
  refine jr<|jm jj<|jS (bSu jj jj e8)<|ja jj<|jn ?_
  refine ⟨⟨(j, (r * B + x) / d :: Q, (r * B + x) % d), by simp only; omega, hI'⟩, ?_, Nat.lt_succ_self j⟩
  exact Sub.mk sJ sJ
set_option maxHeartbeats 1000000 in
theorem jZF (m : List Nat) (s : Nat) (hlen : m.length ≤ 1099511627776) (hm : Lm m) (hs : s < 32) :
  FnG Tryz.prog En 189 ([mag m, ex (.int .i64 (s : Int))].map .one) [] (.own 12 0 (m.length + 1) (m.length + 1)) [(12, (pd (val m * 2 ^ s) (m.length + 1)).map lb)] := by
 have e2 : IntKind.i64.wrap ((m.length : Int) + 1) = ((m.length + 1 : Nat) : Int) := by rw [w64 oM oM]; omega
 have hs0 : (0 : Int) ≤ (s : Int) := Int.natCast_nonneg _
 have hB : 2 ^ s ≤ B := by rw [show B = 2 ^ 32 from rfl]; exact Nat.pow_le_pow_right oM oM
 refine aZr Tryz.func189 rfl Tryz.ntmps189 rfl ?_
 intro w0 h0 c
 refine kO ?_
 refine jr<|ja jj<|jn ?_
 refine kO ?_
 refine jr<|jm jj<|jE jj<|jS (bAd jj jj e2)<|jT (dZC jj jj jj jj oM oM)<|ja jj<|jn ?_
 refine kO ?_
 refine jr<|ja jj<|jn ?_
 refine kO ?_
 refine jr<|jm jj<|jE jj<|jm jj<|jn ?_
 refine kO ?_
 refine WpD.loop (α := {p : Nat × List Nat × Nat // p.1 ≤ m.length ∧ ShlInv m s p.1 p.2.1 p.2.2}) (fun p => ⟨[(0, .one (mag m)), (1, .one (ex (.int .i64 (s : Int)))), (5, .own 12 0 (m.length + 1) (m.length + 1)), (6, .one (ex (.int .u64 (p.1.2.2 : Int)))), (13, .one (mag m)), (14, .one (ex (.int .i64 (m.length : Int)))), (15, .one (ex (.int .i64 (p.1.1 : Int))))], [(12, (p.1.2.1 ++ List.replicate (m.length + 1 - p.1.1) 0).map lb)]⟩) (fun p => m.length - p.1.1) ⟨(0, [], 0), Nat.zero_le _, ShlInv.start m s⟩ ?_ ?_
 ·
  exact Sub.mk sJ ⟨.inl ⟨_, jj, PsLe.of_eq (fZb _)⟩, trivial⟩
 rintro ⟨⟨k, N, c⟩, hk, hI⟩
 simp only at hk hI
 dsimp only
 obtain ⟨hNl, hNm, hc, _⟩ := id hI
 by_cases hlt : k < m.length
 ·obtain ⟨x, hx⟩ : ∃ x, m[k]? = some x := ⟨_, List.getElem?_eq_getElem hlt⟩
  have hxB := hm.get hx
  obtain ⟨hI', ht⟩ := hI.step hx hm
  have htB : 2 ^ s * B ≤ B * B := Nat.mul_le_mul_right _ hB
  have hBB : B * B = 18446744073709551616 := by decide
  have b1 : decide ((k : Int) < (m.length : Int)) = true := decide_eq_true oM
  have e5 : IntKind.u64.wrap (x : Int) = (x : Int) := wu64 oM (by rw [aZv] at hxB; omega)
  have h64 : 2 ^ s * x < 18446744073709551616 := oM
  have e6 : IntKind.u64.wrap ((x : Int) * 2 ^ (min ((s : Int)).toNat IntKind.u64.bits)) = ((2 ^ s * x : Nat) : Int) := by
   rw [Int.toNat_natCast, show min s IntKind.u64.bits = s from Nat.min_eq_left (by show s ≤ 64; omega)]
   rw [show (x : Int) * 2 ^ s = ((2 ^ s * x : Nat) : Int) by rw [Int.natCast_mul, Int.natCast_pow, Int.mul_comm]; rfl]
   exact wu64 (Int.natCast_nonneg _) (Int.ofNat_lt.2 h64)
  have e7 := jZD hc h64 oM
  have hkn : k < m.length + 1 := oM
  have hmm : m.length + 1 - k = (m.length - k) + 1 := oM
  have hsetl : k < ((N ++ List.replicate (m.length + 1 - k) 0).map lb).length := by simp; omega
  have hset : ((N ++ List.replicate (m.length + 1 - k) 0).map lb).set k (ex (.int .u32 (((c + 2 ^ s * x) % B : Nat) : Int))) = ((N ++ [(c + 2 ^ s * x) % B]) ++ List.replicate (m.length + 1 - (k + 1)) 0).map lb := by
   rw [hmm, show m.length + 1 - (k + 1) = m.length - k by omega]; exact kZ6 hNl
  have e13 : IntKind.i64.wrap ((k : Int) + 1) = ((k + 1 : Nat) : Int) := by rw [w64 oM oM]; omega
  refine kO ?_
  refine jr<|jS (bVl jj jj b1)<|jn ?_
  refine kO ?_
  refine WpD.condT rfl ?_
  refine kO ?_
  refine WpD.skip ?_
  refine kO ?_
  refine jr<|jm jj<|jS (aZs jj jj aM)<|jS (aZh jj jj)<|ja jj<|ja jj<|jn ?_
  refine kO ?_
  refine jr<|jm jj<|jm jj<|jS (bCv jj e5)<|jm jj<|jS (aZf jj jj (fun w => cZg w _ _ _ _ _ _ _ aW) (vint e6))<|jS (aZf jj jj (fun w => cZP w _ _ _ _ _ _) (vint e7))<|ja jj<|jn ?_
  refine kO ?_
  refine jr<|jm jj<|jm jj<|jm jj<|jS (bCv jj (u32w _))<|jS (aZO jj jj aO)<|jO (aZK jj jj jj aM aM)<|jn ?_
  refine kO ?_
  refine jr<|jm jj<|jS (aZf jj jj (fun w => aZH w _ _ _ _ _ _ _ aW) (vint (gZ2 _)))<|ja jj<|jn ?_
  refine kO ?_
  refine jr<|jS (bAd jj jj e13)<|jm jj<|jn ?_
  refine ⟨⟨(k + 1, N ++ [(c + 2 ^ s * x) % B], (c + 2 ^ s * x) / B), hlt, hI'⟩, ?_, by simp only; omega⟩
  exact Sub.mk sJ sJ
 ·have b1 : decide ((k : Int) < (m.length : Int)) = false := decide_eq_false oM
  have hkm : k = m.length := oM
  subst hkm
  obtain ⟨d1, d2⟩ := hI.done hs
  have hkn : m.length < m.length + 1 := oM
  have hsetl : m.length < ((N ++ List.replicate (m.length + 1 - m.length) 0).map lb).length := by simp; omega
  have hcw : ((c % B : Nat) : Int) = (c : Int) := by rw [Nat.mod_eq_of_lt d2]
  have hset : ((N ++ List.replicate (m.length + 1 - m.length) 0).map lb).set m.length (ex (.int .u32 (c : Int))) = (pd (val m * 2 ^ s) (m.length + 1)).map lb := by
   rw [← d1, show m.length + 1 - m.length = 0 + 1 by omega, show (N ++ [c]).map lb = ((N ++ [c]) ++ List.replicate 0 0).map lb by simp]; exact kZ6 hNl
  refine kO ?_
  refine jr<|jS (bVl jj jj b1)<|jn ?_
  refine kO ?_
  refine WpD.condF rfl ?_
  refine kO ?_
  refine WpD.exit ?_
  refine kO ?_
  refine jr<|jm jj<|jm jj<|jE jj<|jm jj<|jS (bCv jj ((u32w _).trans hcw))<|jS (aZO jj jj aO)<|jO (aZK jj jj jj aM aM)<|jn ?_
  refine kO ?_
  refine jr<|jm jj<|ja jj<|jn ?_
  refine kO ?_
  refine WpD.ret ?_
  exact dZm rfl rfl rfl (Option.some_ne_none _) ⟨.inl pQ, trivial⟩
theorem nshl (m : List Nat) (s : Nat) (hlen : m.length ≤ 1099511627776) (hm : Lm m) (hs : s < 32) :
  Fn Tryz.prog En 189 [mag m, ex (.int .i64 (s : Int))] (mag (pd (val m * 2 ^ s) (m.length + 1))) := by
 refine FnG.const (jZF En m s hlen hm hs) rfl ?_
 have := bZv (l := pd (val m * 2 ^ s) (m.length + 1)) (cap := m.length + 1) (by rw [aZP]; omega) (fZn _ _)
 rwa [aZP] at this
set_option maxHeartbeats 1000000 in
theorem nshr (m Z : List Nat) (s cap : Nat) (hlen : m.length ≤ 1099511627776) (hm : Lm m) (hs : s < 32) :
  FnG Tryz.prog En 191 [.own 1000 0 m.length cap, .one (ex (.int .i64 (s : Int)))] [(1000, (m ++ Z).map lb)] (.one (ex (.tuple #[]))) [(1000, (pd (val m / 2 ^ s) m.length ++ Z).map lb)] := by
 have hs0 : (0 : Int) ≤ (s : Int) := Int.natCast_nonneg _
 refine aZr Tryz.func191 rfl Tryz.ntmps191 rfl ?_
 intro w0 h0 c
 refine kO ?_
 refine jr<|jm jj<|jS (aZE jj CSlice.ok)<|jm jj<|jn ?_
 refine kO ?_
 refine WpD.loop (α := {p : Nat × List Nat // p.1 ≤ m.length ∧ ShrInv m s p.1 p.2}) (fun p => ⟨[(0, .own 1000 0 m.length cap), (1, .one (ex (.int .i64 (s : Int)))), (7, .one (ex (.int .i64 (m.length : Int)))), (8, .one (ex (.int .i64 (p.1.1 : Int))))], [(1000, (p.1.2 ++ (m.drop p.1.1 ++ Z)).map lb)]⟩) (fun p => m.length - p.1.1) ⟨(0, []), Nat.zero_le _, ShrInv.start m s⟩ ?_ ?_
 ·
  exact Sub.mk sJ sJ
 rintro ⟨⟨k, N⟩, hk, hI⟩
 simp only at hk hI
 dsimp only
 obtain ⟨hNl, hNm, _⟩ := id hI
 by_cases hlt : k < m.length
 ·obtain ⟨x, hx⟩ : ∃ x, m[k]? = some x := ⟨_, List.getElem?_eq_getElem hlt⟩
  have hxB := hm.get hx
  have hI' := hI.step hs hx hm
  obtain ⟨y, hy⟩ : ∃ y, m[k + 1]?.getD 0 = y := ⟨_, rfl⟩
  rw [hy] at hI'
  have hyB : y < B := by rw [← hy]; exact cZ9 hm (k + 1)
  have hdr : m.drop k = x :: m.drop (k + 1) := by rw [List.drop_eq_getElem_cons hlt, (List.getElem?_eq_some_iff.1 hx).2]
  have b1 : decide ((k : Int) < (m.length : Int)) = true := decide_eq_true oM
  have e1 : IntKind.i64.wrap ((k : Int) + 1) = ((k + 1 : Nat) : Int) := by rw [w64 oM oM]; omega
  have e4 : IntKind.u64.wrap (x : Int) = (x : Int) := wu64 oM (by rw [aZv] at hxB; omega)
  have hget : ((N ++ (m.drop k ++ Z)).map lb)[k]? = some (lb x) := by
   refine getL ?_
   rw [List.getElem?_append_right oM, hNl, Nat.sub_self, hdr]; rfl
  have hsetl : k < ((N ++ (m.drop k ++ Z)).map lb).length := by simp; omega
  obtain ⟨q, hq⟩ : ∃ q, (x + B * y) / 2 ^ s = q := ⟨_, rfl⟩
  have hset : ((N ++ (m.drop k ++ Z)).map lb).set k (ex (.int .u32 ((q % B : Nat) : Int))) = ((N ++ [q % B]) ++ (m.drop (k + 1) ++ Z)).map lb := by
   have := setL N (m.drop (k + 1) ++ Z) x (q % B)
   rw [hNl] at this
   rw [hdr]
   simp only [List.append_assoc, List.cons_append, List.nil_append] at this ⊢
   exact this
  refine kO ?_
  refine jr<|jS (bVl jj jj b1)<|jn ?_
  refine kO ?_
  refine WpD.condT rfl ?_
  refine kO ?_
  refine WpD.skip ?_
  refine kO ?_
  refine jr<|jm jj<|ja jj<|jn ?_
  refine kO ?_
  refine jr<|jm jj<|jm jj<|jS (aZO jj jj aO)<|jS (aZ9 jj jj aM)<|jS (bCv jj e4)<|ja jj<|jn ?_
  refine WpD.cut (α := Unit) (fun _ => ⟨[(0, .own 1000 0 m.length cap), (1, .one (ex (.int .i64 (s : Int)))), (4, .one (ex (.int .i64 (k : Int)))), (5, .one (ex (.int .u64 ((x + B * y : Nat) : Int)))), (7, .one (ex (.int .i64 (m.length : Int)))), (8, .one (ex (.int .i64 (k : Int))))], [(1000, (N ++ (m.drop k ++ Z)).map lb)]⟩) ?_ ?_
  ·by_cases hk1 : k + 1 < m.length
   ·have b2 : decide (((k + 1 : Nat) : Int) < (m.length : Int)) = true := decide_eq_true oM
    have hy' : m[k + 1]? = some y := by rw [← hy, List.getElem?_eq_getElem hk1]; rfl
    have hget1 : ((N ++ (m.drop k ++ Z)).map lb)[k + 1]? = some (lb y) := by
     refine getL ?_
     rw [List.getElem?_append_right oM, hNl, show k + 1 - k = 1 by omega, hdr]
     rw [List.cons_append, List.getElem?_cons_succ, List.getElem?_append_left (by simp; omega), List.getElem?_drop, Nat.add_zero]; exact hy'
    have e6 : IntKind.u64.wrap (y : Int) = (y : Int) := wu64 oM (by rw [aZv] at hyB; omega)
    have e7 : IntKind.u64.wrap ((y : Int) * 2 ^ (min (32 : Int).toNat IntKind.u64.bits)) = ((2 ^ 32 * y : Nat) : Int) := by
     show IntKind.u64.wrap ((y : Int) * 2 ^ 32) = _
     rw [aZv] at hyB
     rw [wu64 oM oM]; omega
    have e8 := jZD (a := x) (b := y) (j := 32) hxB (by rw [aZv] at hyB; omega) oM
    refine kO ?_
    refine jr<|jm jj<|jS (bAd jj jj e1)<|jm jj<|jS (aZE jj CSlice.ok)<|jS (bVl jj jj b2)<|jn ?_
    refine kO ?_
    refine WpD.condT rfl ?_
    refine kO ?_
    refine jr<|jm jj<|jm jj<|jm jj<|jS (bAd jj jj e1)<|jS (aZO jj jj aO)<|jS (aZ9 jj jj aM)<|jS (bCv jj e6)<|jS (aZf jj jj (fun w => cZg w _ _ _ _ _ _ _ aW) (vint e7))<|jS (aZf jj jj (fun w => cZP w _ _ _ _ _ _) (vint e8))<|ja jj<|jn ?_
    refine ⟨(), ?_⟩
    exact Sub.mk sJ sJ
   ·have b2 : decide (((k + 1 : Nat) : Int) < (m.length : Int)) = false := decide_eq_false oM
    have hy0 : y = 0 := by rw [← hy, List.getElem?_eq_none oM]; rfl
    subst hy0
    refine kO ?_
    refine jr<|jm jj<|jS (bAd jj jj e1)<|jm jj<|jS (aZE jj CSlice.ok)<|jS (bVl jj jj b2)<|jn ?_
    refine kO ?_
    refine WpD.condF rfl ?_
    refine kO ?_
    refine WpD.skip ?_
    refine ⟨(), ?_⟩
    exact Sub.mk sJ sJ
  ·rintro ⟨⟩
   have e5 : ((x + B * y : Nat) : Int).fdiv (2 ^ (min ((s : Int)).toNat IntKind.u64.bits)) = (q : Int) := by
    rw [Int.toNat_natCast, show min s IntKind.u64.bits = s from Nat.min_eq_left (by show s ≤ 64; omega)]
    rw [Int.fdiv_eq_ediv_of_nonneg _ (by exact_mod_cast Nat.zero_le _), ← hq]
    norm_cast
   rw [hq] at hI'
   refine kO ?_
   refine jr<|jm jj<|jm jj<|jm jj<|jm jj<|jS (aZf jj jj (fun w => aZH w _ _ _ _ _ _ _ aW) (vint e5))<|jS (bCv jj (u32w _))<|jS (aZO jj jj aO)<|jO (aZK jj jj jj aM aM)<|jn ?_
   refine kO ?_
   refine jr<|jS (bAd jj jj e1)<|jm jj<|jn ?_
   refine ⟨⟨(k + 1, N ++ [q % B]), hlt, hI'⟩, ?_, by simp only; omega⟩
   exact Sub.mk sJ sJ
 ·have b1 : decide ((k : Int) < (m.length : Int)) = false := decide_eq_false oM
  have hkm : k = m.length := oM
  subst hkm
  have hd := hI.done
  subst hd
  rw [List.drop_length, List.nil_append]
  refine kO ?_
  refine jr<|jS (bVl jj jj b1)<|jn ?_
  refine kO ?_
  refine WpD.condF rfl ?_
  refine kO ?_
  refine WpD.exit ?_
  exact oZq rfl ⟨.inl pQ, trivial⟩
end
end
end Go.Proofs.YtfmjdlogjmofbaaGreatDoor

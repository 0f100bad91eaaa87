/- The tables of the program (two package variables); the scene's prime numbers; prime.Is, prime.Discriminant az contracts. -/
import Derived.Test.YtfmjdlogjmofbaaGreatDoorMa
import Derived.Test.YtfmjdlogjmofbaaGreatDoorMem
import Derived.OpenShut
import Derived.Deep.QuietTactic
import Derived.BigQuiet
import Derived.Test.YtfmjdlogjmofbaaGreatDoorW
set_option maxRecDepth 3000
namespace Go.Proofs.YtfmjdlogjmofbaaGreatDoor
section
open Go.RowKit Limb Num
instance cbody89 : CBody Tryz.prog 89 := ⟨⟨_, Tryz.func89, rfl, by rfl⟩⟩
instance cbody34 : CBody Tryz.prog 34 := ⟨⟨_, Tryz.func34, rfl, by rfl⟩⟩
instance cbody6 : CBody Tryz.prog 6 := ⟨⟨_, Tryz.func6, rfl, by rfl⟩⟩
def mrow : List (Bool × Bool × Int × Int × Int) := [(false, false, 0, 0, 2), (false, true, 0, 1, 0), (true, true, 1, 0, 0), (true, true, 0, -1, 0), (true, false, 0, -2, 1), (true, false, 1, -1, 1), (true, false, 7, -1, 1), (true, false, 2, -1, 0), (true, false, 6, -1, 0), (true, false, 3, -1, -1), (true, false, 5, -1, -1), (true, false, 4, -2, -1)]
def jZR (r : Bool × Bool × Int × Int × Int) : List Value := [.bool r.1, .bool r.2.1, .int .i64 r.2.2.1, .int .i64 r.2.2.2.1, .int .i64 r.2.2.2.2]
def mtabV : Array Value := (mrow.flatMap jZR).toArray
def TabM (w : World) : Prop := ∃ t fr, w.heap[0]? = some (.cells mtabV t fr)
def TabD : Ev := ⟨fun w => Tab w ∧ TabM w, fun k => k = 1 ∨ k = 0,
 fun w ⟨⟨t, fr, h⟩, ⟨t', fr', h'⟩⟩ k hk => by rcases hk with rfl | rfl; exact aZM h; exact aZM h',
 fun w w' hk ⟨⟨t, fr, h⟩, ⟨t', fr', h'⟩⟩ => ⟨⟨t, fr, by rw [hk _ (.inl rfl)]; exact h⟩, ⟨t', fr', by rw [hk _ (.inr rfl)]; exact h'⟩⟩⟩
theorem Fn.tab {f : FuncId} {ps : List Pd} {r : Pd} (h : Fn Tryz.prog TabE f ps r) : Fn Tryz.prog TabD f ps r := h.env fun _ h => h.1
theorem ex_fnU {h : GH} {w w' : World} {v : Value} {e : Ending} (hh : Holds h w) (he : e = .returned v) (hb : Below w.heap.size w w') : eZL h w (ex v) e w' := by subst he; exact bZR hh hb rfl
theorem fis (n : Int) : Fn Tryz.prog TabE 89 [ex (.int .i64 n)] (ex (.bool (isP n.toNat))) := by
 intro h w vs ht hh hv
 obtain ⟨v, rfl, h1⟩ := hv.one
 have h1 : v = .int .i64 n := h1
 subst h1
 refine (is_any n w ht).mono ?_
 rintro e w' ⟨rfl, rfl⟩
 exact bZR hh (Below.refl _ _) rfl
def od8 (j : Nat) : Nat := ([3, 5, 7, 11, 13, 17, 19, 23] : List Nat).getD j 0
set_option maxHeartbeats 4000000 in
theorem odd_any (k : Int) (w : World) (h1 : 0 ≤ k) (h2 : k ≤ 255) :
  Calls Tryz.prog 6 #[.int .u8 k] w fun e w' => e = .returned (.int .i64 (od8 (k % 8).toNat : Int)) ∧ Below w.heap.size w w' := by
 have hr : k % 8 = 0 ∨ k % 8 = 1 ∨ k % 8 = 2 ∨ k % 8 = 3 ∨ k % 8 = 4 ∨ k % 8 = 5 ∨ k % 8 = 6 ∨ k % 8 = 7 := oM
 obtain ⟨r, hrr⟩ : ∃ r, k % 8 = r := ⟨_, rfl⟩
 rw [hrr] at hr
 have HR := Lib.hid hrr
 rcases hr with rfl | rfl | rfl | rfl | rfl | rfl | rfl | rfl
 all_goals
  go_enter Tryz.func6, Tryz.ntmps6
  go_wp2_with fail
  go_ret
  refine ⟨?_, (Below.refl _ _).alloc (Nat.le_refl _) _⟩
  first | rfl | (rw [HR.out]; rfl)
theorem fodd (En : Ev) (k : Int) (h1 : 0 ≤ k) (h2 : k ≤ 255) : Fn Tryz.prog En 6 [ex (.int .u8 k)] (ex (.int .i64 (od8 (k % 8).toNat : Int))) := by
 intro h w vs _ hh hv
 obtain ⟨v, rfl, e1⟩ := hv.one
 have e1 : v = .int .u8 k := e1
 subst e1
 exact (odd_any k w h1 h2).mono fun _ _ ⟨he, hb⟩ => ex_fnU hh he hb
theorem lZF {n : Int} (h0 : n ≠ 0) (hn : InR n) : -2147483647 ≤ sfS n ∧ sfS n ≤ 2147483647 := by
 have := (oZc n h0).bound
 unfold InR at hn
 omega
set_option maxHeartbeats 1000000 in
theorem oZU (n : Int) (w : World) (h0 : n ≠ 0) (hn : InR n) (ht : Tab w) :
  Calls Tryz.prog 34 #[.int .i64 n] w fun e w' => e = .returned (.tuple #[.int .i64 (disc n), .int .i64 0]) ∧ Below w.heap.size w w' := by
 obtain ⟨b1, b2⟩ := lZF h0 hn
 have C := Lib.hid (sqf_any n w h0 hn ht)
 obtain ⟨s, hs⟩ : ∃ s, sfS n = s := ⟨_, rfl⟩
 have HD : Hid (disc n = if s % 4 = 1 then s else 4 * s) := by show disc n = _; unfold disc; rw [hs]
 rw [hs] at b1 b2 C
 clear hs
 by_cases h4 : s % 4 = 1
 ·have hb : (s % 4 == 1) = true := by rw [beq_iff_eq]; exact h4
  rw [if_pos h4] at HD
  clear h4
  go_enter Tryz.func34, Tryz.ntmps34
  go_wp2_with (first | (go_at_call 90; refine C.out.mono ?_; rintro e w1 ⟨rfl, hbel⟩; have HB := Lib.hid hbel; clear hbel) | (go_at_call 91; refine (bZP _ _ _ oM oM).mono ?_; rintro e w' ⟨rfl, rfl⟩))
  go_ret2
  exact ⟨by rw [HD.out]; rfl, HB.out⟩
 ·have hb : (s % 4 == 1) = false := by rw [beq_eq_false_iff_ne]; exact h4
  rw [if_neg h4] at HD
  clear h4
  go_enter Tryz.func34, Tryz.ntmps34
  go_wp2_with (first | (go_at_call 90; refine C.out.mono ?_; rintro e w1 ⟨rfl, hbel⟩; have HB := Lib.hid hbel; clear hbel) | (go_at_call 91; refine (bZP _ _ _ oM oM).mono ?_; rintro e w' ⟨rfl, rfl⟩))
  go_ret2
  exact ⟨by rw [HD.out]; rfl, HB.out⟩
theorem fdisc (n : Int) (h0 : n ≠ 0) (hn : InR n) : Fn Tryz.prog TabE 34 [ex (.int .i64 n)] (tupP [ex (.int .i64 (disc n)), ex (.int .i64 0)]) := by
 intro h w vs ht hh hv
 obtain ⟨v, rfl, h1⟩ := hv.one
 have h1 : v = .int .i64 n := h1
 subst h1
 exact (oZU n w h0 hn ht).mono fun _ _ ⟨he, hb⟩ => by subst he; exact bZR hh hb ⟨[_, _], rfl, rfl, rfl, trivial⟩
end
section
open Go.RowKit Limb Num
instance cbody11 : CBody Tryz.prog 11 := ⟨⟨_, Tryz.func11, rfl, by rfl⟩⟩
def smP (p : Int) : Bool := decide (p ≤ 9973) && isP p.toNat
theorem jZo {p : Int} (h : smP p = true) : 2 ≤ p ∧ p ≤ 9973 ∧ isP p.toNat = true := by
 unfold smP at h
 rw [Bool.and_eq_true] at h
 obtain ⟨h1, h2⟩ := h
 have h1 := of_decide_eq_true h1
 refine ⟨?_, h1, h2⟩
 unfold isP at h2
 rw [Bool.and_eq_true, Bool.and_eq_true] at h2
 have := of_decide_eq_true h2.1.1
 omega
def zero4 : Pd := aggP [ex (.bool false), ex (.slice none 0 0), ex (.bool false), ex (.slice none 0 0)]
section
variable (En : Ev)
theorem rsmall (p : Int) : Fn Tryz.prog En 136 [ex (.int .i64 p)] (ex (.bool (smP p))) := by
 have C1 := gris En p
 unfold smP
 by_cases h : p ≤ 9973
 ·rw [decide_eq_true h, Bool.true_and]
  refine aZb Tryz.func136 rfl Tryz.ntmps136 rfl ?_
  intro w0 h0
  refine js<|jr<|ja jj<|jn<|js<|jr<|jm jj<|jS (bMt jj jj)<|jm jj (jgm jj (jg (aZa C1 tA) (jq jj jj (ja jj (jn (ji ?_))))))
  exact rtT rfl jj
 ·rw [decide_eq_false h, Bool.false_and]
  refine aZb Tryz.func136 rfl Tryz.ntmps136 rfl ?_
  intro w0 h0
  refine js<|jr<|ja jj<|jn<|js<|jr<|jm jj<|jS (bMf jj jj)<|jm jj<|jk<|jk<|jQ jj jj<|ja jj<|jn<|ji ?_
  exact rtT rfl jj
end
theorem oZA (p : Int) : Fn Tryz.prog TabE 33 [ex (.int .i64 p)] (ex (.bool (smP p))) := by
 have C1 := fis p
 unfold smP
 by_cases h : p ≤ 9973
 ·rw [decide_eq_true h, Bool.true_and]
  refine aZb Tryz.func33 rfl Tryz.ntmps33 rfl ?_
  intro w0 h0
  refine js<|jr<|ja jj<|jn<|js<|jr<|jm jj<|jS (bMt jj jj)<|jm jj (jgm jj (jg (aZa C1 tA) (jq jj jj (ja jj (jn (ji ?_))))))
  exact rtT rfl jj
 ·rw [decide_eq_false h, Bool.false_and]
  refine aZb Tryz.func33 rfl Tryz.ntmps33 rfl ?_
  intro w0 h0
  refine js<|jr<|ja jj<|jn<|js<|jr<|jm jj<|jS (bMf jj jj)<|jm jj<|jk<|jk<|jQ jj jj<|ja jj<|jn<|ji ?_
  exact rtT rfl jj
def fldZ (n d : Int) : Int := disc (if n % 4 = 2 then -d else d)
theorem mZZ {d : Int} (h0 : d ≠ 0) (h1 : -10000 ≤ d) (h2 : d ≤ 10000) : -40000 ≤ disc d ∧ disc d ≤ 40000 := by
 have := (SqF.bound (oZc d h0)).1
 unfold disc
 split <;> omega
def stdQ (n : Nat) (d p : Int) : Rat := if n % 2 = 1 then dia p n 0 else dia p n (krZ (fldZ (n : Int) d) p)
theorem fld_in {n d : Int} (h1 : 1 ≤ d) (h2 : d ≤ 10000) : InR (fldZ n d) := by
 unfold fldZ
 split
 ·have := mZZ (d := -d) oM oM oM
  exact ⟨oM, oM⟩
 ·have := mZZ (d := d) oM oM oM
  exact ⟨oM, oM⟩
def stdA (n d p : Int) : Pd := if 2 ≤ n ∧ n ≤ 8 ∧ 1 ≤ d ∧ d ≤ 10000 then (if smP p = true then tupP [qC (stdQ n.toNat d p), ex (.int .i64 0)] else tupP [zero4, ex (.int .i64 20)]) else tupP [zero4, ex (.int .i64 1)]
theorem hZK (n d p : Int) : Fn Tryz.prog TabE 11 [ex (.int .i64 n), ex (.int .i64 d), ex (.int .i64 p)] (stdA n d p) := by
 have A1 := oZA p
 unfold stdA
 by_cases g1 : n < 2
 ·rw [if_neg oM]
  refine aZb Tryz.func11 rfl Tryz.ntmps11 rfl ?_
  intro w0 h0
  refine js<|jr<|jA jj jj jj<|ja jj<|jn<|js<|js<|jr<|jm jj<|jS (bLt jj jj)<|jm jj<|jk<|jk<|jq jj jj<|jm jj<|jk<|jk<|jq jj jj<|jm jj<|jk<|jk<|jq jj jj<|jn<|jt jj<|js<|jr<|jS (aZj (ps := []) trivial jj)<|jP jj jj jj jj<|ja jj<|jn<|ji ?_
  exact rtD rfl jj jj jj
 by_cases g2 : n > 8
 ·rw [if_neg oM]
  refine aZb Tryz.func11 rfl Tryz.ntmps11 rfl ?_
  intro w0 h0
  refine js<|jr<|jA jj jj jj<|ja jj<|jn<|js<|js<|jr<|jm jj<|jS (bLf jj jj)<|jm jj (jgm jj (jg (bGt jj jj) (jQ jj jj (jm jj (jk (jk (jq jj jj (jm jj (jk (jk (jq jj jj (jn (jt jj (js (jr (jS (aZj (ps := []) trivial jj) (jP jj jj jj jj (ja jj (jn (ji ?_))))))))))))))))))))
  exact rtD rfl jj jj jj
 by_cases g3 : d < 1
 ·rw [if_neg oM]
  refine aZb Tryz.func11 rfl Tryz.ntmps11 rfl ?_
  intro w0 h0
  refine js<|jr<|jA jj jj jj<|ja jj<|jn<|js<|js<|jr<|jm jj<|jS (bLf jj jj)<|jm jj (jgm jj (jg (bGf jj jj) (jQ jj jj (jm jj (jgm jj (jg (bLt jj jj) (jQ jj jj (jm jj (jk (jk (jq jj jj (jn (jt jj (js (jr (jS (aZj (ps := []) trivial jj) (jP jj jj jj jj (ja jj (jn (ji ?_))))))))))))))))))))
  exact rtD rfl jj jj jj
 by_cases g4 : d > 10000
 ·rw [if_neg oM]
  refine aZb Tryz.func11 rfl Tryz.ntmps11 rfl ?_
  intro w0 h0
  refine js<|jr<|jA jj jj jj<|ja jj<|jn<|js<|js<|jr<|jm jj<|jS (bLf jj jj)<|jm jj (jgm jj (jg (bGf jj jj) (jQ jj jj (jm jj (jgm jj (jg (bLf jj jj) (jQ jj jj (jm jj (jgm jj (jg (bGt jj jj) (jQ jj jj (jn (jt jj (js (jr (jS (aZj (ps := []) trivial jj) (jP jj jj jj jj (ja jj (jn (ji ?_))))))))))))))))))))
  exact rtD rfl jj jj jj
 rw [if_pos oM]
 cases hp : smP p with
 | false =>
  rw [hp] at A1
  rw [if_neg aD]
  refine aZb Tryz.func11 rfl Tryz.ntmps11 rfl ?_
  intro w0 h0
  refine js<|jr<|jA jj jj jj<|ja jj<|jn<|js<|js<|jr<|jm jj<|jS (bLf jj jj)<|jm jj (jgm jj (jg (bGf jj jj) (jQ jj jj (jm jj (jgm jj (jg (bLf jj jj) (jQ jj jj (jm jj (jgm jj (jg (bGf jj jj) (jQ jj jj (jn (jf jj (jp (js (js (jr (jm jj (jS (aZa A1 tA) (jS (bNo jj) (jn (jt jj (js (jr (jS (aZj (ps := []) trivial jj) (jP jj jj jj jj (ja jj (jn (ji ?_)))))))))))))))))))))))))))))
  exact rtD rfl jj jj jj
 | true =>
  rw [hp] at A1
  rw [if_pos rfl]
  obtain ⟨p1, p2, _⟩ := jZo hp
  obtain ⟨m, rfl⟩ : ∃ m : Nat, n = (m : Int) := ⟨n.toNat, oM⟩
  rw [Int.toNat_natCast]
  have em : ((m : Nat) : Int).tmod 2 = ((m % 2 : Nat) : Int) := (Int.ofNat_tmod _ _).symm
  have e4 : ((m : Nat) : Int).tmod 4 = ((m % 4 : Nat) : Int) := (Int.ofNat_tmod _ _).symm
  unfold stdQ
  by_cases hodd : m % 2 = 1
  ·rw [if_pos hodd]
   have A2 := eZd TabE p 0 m p1 p2 oM oM oM
   refine aZb Tryz.func11 rfl Tryz.ntmps11 rfl ?_
   intro w0 h0
   refine js<|jr<|jA jj jj jj<|ja jj<|jn<|js<|js<|jr<|jm jj<|jS (bLf jj jj)<|jm jj (jgm jj (jg (bGf jj jj) (jQ jj jj (jm jj (jgm jj (jg (bLf jj jj) (jQ jj jj (jm jj (jgm jj (jg (bGf jj jj) (jQ jj jj (jn (jf jj (jp (js (js (jr (jm jj (jS (aZa A1 tA) (jS (bNo jj) (jn (jf jj (jp (js (js (jr (jm jj (jS (bRe jj jj em) (jS (bEt jj jj) (jn ?_))))))))))))))))))))))))))))))
   refine jt jj<|js<|jr<|jm jj<|jm jj<|jS (aZj (ps := [(_, _)]) ⟨jj, Part.c jj, trivial⟩ jj)<|jS (aZa A2 tB)<|jP jj jj jj jj<|ja jj<|jn<|ji ?_
   exact rtD rfl jj jj jj
  ·rw [if_neg hodd]
   have A3 := fkron TabE (fldZ (m : Int) d) p (fld_in oM oM) ⟨oM, oM⟩
   have h3 := eZi (fldZ (m : Int) d) p
   by_cases h4 : (m : Int) % 4 = 2
   ·have A2 := fdisc (-d) oM ⟨oM, oM⟩
    rw [show disc (-d) = fldZ (m : Int) d by unfold fldZ; rw [if_pos h4]] at A2
    have en : IntKind.i64.wrap (-d) = -d := w64 oM oM
    generalize krZ (fldZ (m : Int) d) p = c at *
    have A4 := eZd TabE p c m p1 p2 oM oM oM
    refine aZb Tryz.func11 rfl Tryz.ntmps11 rfl ?_
    intro w0 h0
    refine js<|jr<|jA jj jj jj<|ja jj<|jn<|js<|js<|jr<|jm jj<|jS (bLf jj jj)<|jm jj (jgm jj (jg (bGf jj jj) (jQ jj jj (jm jj (jgm jj (jg (bLf jj jj) (jQ jj jj (jm jj (jgm jj (jg (bGf jj jj) (jQ jj jj (jn (jf jj (jp (js (js (jr (jm jj (jS (aZa A1 tA) (jS (bNo jj) (jn (jf jj (jp (js (js (jr (jm jj (jS (bRe jj jj em) (jS (bEf jj jj) (jn ?_))))))))))))))))))))))))))))))
    refine jf jj<|jp<|js<|js<|jr<|jm jj<|jS (bRe jj jj e4)<|jS (bEt jj jj)<|jn<|jt jj<|jr<|jm jj<|jS (cZS jj (fun w => cZ0 w _ _) (vint en))<|ja jj<|jn<|js<|jr<|jm jj<|jS (aZa A2 tA)<|jm jj<|jx' jj jj<|jx' jj jj<|ja jj<|ja jj<|jn<|js<|jr<|jm jj<|jm jj<|jS (aZa A3 tB)<|jm jj<|jx' jj jj<|jx' jj jj<|ja jj<|ja jj<|jn<|js<|jr<|jm jj<|jm jj<|jm jj<|jS (aZj (ps := [(_, _), (_, _)]) ⟨jj, Part.c jj, jj, Part.c jj, trivial⟩ jj)<|jS (aZa A4 tB)<|jP jj jj jj jj<|ja jj<|jn ?_
    refine ji ?_
    exact rtD rfl jj jj jj
   ·have A2 := fdisc d oM ⟨oM, oM⟩
    rw [show disc d = fldZ (m : Int) d by unfold fldZ; rw [if_neg h4]] at A2
    generalize krZ (fldZ (m : Int) d) p = c at *
    have A4 := eZd TabE p c m p1 p2 oM oM oM
    refine aZb Tryz.func11 rfl Tryz.ntmps11 rfl ?_
    intro w0 h0
    refine js<|jr<|jA jj jj jj<|ja jj<|jn<|js<|js<|jr<|jm jj<|jS (bLf jj jj)<|jm jj (jgm jj (jg (bGf jj jj) (jQ jj jj (jm jj (jgm jj (jg (bLf jj jj) (jQ jj jj (jm jj (jgm jj (jg (bGf jj jj) (jQ jj jj (jn (jf jj (jp (js (js (jr (jm jj (jS (aZa A1 tA) (jS (bNo jj) (jn (jf jj (jp (js (js (jr (jm jj (jS (bRe jj jj em) (jS (bEf jj jj) (jn ?_))))))))))))))))))))))))))))))
    refine jf jj<|jp<|js<|js<|jr<|jm jj<|jS (bRe jj jj e4)<|jS (bEf jj jj)<|jn<|jf jj<|jp<|js<|jr<|jm jj<|jS (aZa A2 tA)<|jm jj<|jx' jj jj<|jx' jj jj<|ja jj<|ja jj<|jn<|js<|jr<|jm jj<|jm jj<|jS (aZa A3 tB)<|jm jj<|jx' jj jj<|jx' jj jj<|ja jj<|ja jj<|jn<|js<|jr<|jm jj<|jm jj<|jm jj<|jS (aZj (ps := [(_, _), (_, _)]) ⟨jj, Part.c jj, jj, Part.c jj, trivial⟩ jj)<|jS (aZa A4 tB)<|jP jj jj jj jj<|ja jj<|jn ?_
    refine ji ?_
    exact rtD rfl jj jj jj
end
section
open Go.RowKit Limb Num
instance cbody75 : CBody Tryz.prog 75 := ⟨⟨_, Tryz.func75, rfl, by rfl⟩⟩
instance cbody29 : CBody Tryz.prog 29 := ⟨⟨_, Tryz.func29, rfl, by rfl⟩⟩
instance cbody24 : CBody Tryz.prog 24 := ⟨⟨_, Tryz.func24, rfl, by rfl⟩⟩
instance cbody25 : CBody Tryz.prog 25 := ⟨⟨_, Tryz.func25, rfl, by rfl⟩⟩
instance cbody9 : CBody Tryz.prog 9 := ⟨⟨_, Tryz.func9, rfl, by rfl⟩⟩
instance cbody69 : CBody Tryz.prog 69 := ⟨⟨_, Tryz.func69, rfl, by rfl⟩⟩
instance cbody164 : CBody Tryz.prog 164 := ⟨⟨_, Tryz.func164, rfl, by rfl⟩⟩
instance cbody165 : CBody Tryz.prog 165 := ⟨⟨_, Tryz.func165, rfl, by rfl⟩⟩
instance cbody127 : CBody Tryz.prog 127 := ⟨⟨_, Tryz.func127, rfl, by rfl⟩⟩
structure Co where
 e : Int
 d : Int
 s : Int
 o : Bool
 y : Int
def coc (c : Co) : List Pd := [ex (.int .i64 c.e), ex (.int .i64 c.d), ex (.int .i64 c.s), ex (.bool c.o), ex (.int .i64 c.y)]
def ccs (f : Nat → Co) : Nat → List Pd := fun i => coc (f i)
theorem cZb (f : Nat → Co) (i : Nat) : (ccs f i).length = 5 := rfl
def locP (p : Int) (f : Nat → Co) (n : Nat) : Pd := aggP [ex (.int .i64 p), slc 5 (rows (ccs f) n) n]
def mro (i : Nat) : Bool × Bool × Int × Int × Int := mrow.getD i (false, false, 0, 0, 0)
def mtc : Nat → List Pd := fun i => (jZR (mro i)).map ex
theorem hZF : mtabV.toList.map ex = rows mtc 12 := rfl
theorem jZN : ∀ v ∈ mtabV.toList, v.oneCell' = true := by decide +kernel
theorem mZq (w : World) (h : TabD.e w) : w.rangeAt 0 0 mtabV.toList := by
 obtain ⟨_, t, fr, h⟩ := h
 intro j v hv
 rw [Nat.zero_add]
 simp only [World.cell?, h]
 simpa using hv
theorem mZu : ∀ i : Fin 12, -2 ≤ (mro i.1).2.2.2.1 ∧ (mro i.1).2.2.2.1 ≤ 1 := by decide +kernel
def fits (o b : Bool) (k : Int) (m : Nat) : Prop := m < 12 ∧ (mro m).1 = o ∧ (mro m).2.1 = b ∧ (mro m).2.2.1 = k ∧ ∀ j, j < m → ¬ ((mro j).1 = o ∧ (mro j).2.1 = b ∧ (mro j).2.2.1 = k)
def rowS (d s : Int) (m : Nat) : Pd := aggP [ex (.int .i64 (d + (mro m).2.2.2.1)), ex (.int .i64 (if (mro m).2.2.2.2 = 2 then s else (mro m).2.2.2.2))]
set_option maxHeartbeats 1000000 in
theorem eZU (ce d s y : Int) (bnd : Bool) (m : Nat) (hd1 : 0 ≤ d) (hd2 : d ≤ 100) (hf : fits false bnd 0 m) : Fn Tryz.prog TabD 75 [aggP (coc ⟨ce, d, s, false, y⟩), ex (.bool bnd)] (rowS d s m) := by
 obtain ⟨hm, ho, hb, hk, hno⟩ := hf
 unfold coc
 dsimp only
 refine aZb Tryz.func75 rfl Tryz.ntmps75 rfl ?_
 intro w0 h0
 refine js<|jr<|jB jj jj jj<|jA jj jj jj<|jn<|js<|jr<|ja jj<|jn<|js<|jb<|js<|jr<|jF jj jj<|jl jj jj jj<|jm jj ?_
 first | refine jgm jj ?_ | refine jk ?_ | refine ju ?_
 first | refine jq jj jj ?_ | refine jQ jj jj ?_
 refine ja jj<|jn<|jf jj<|js<|jr<|jF jj jj<|jl jj jj jj<|ja jj<|jn<|jf jj<|jp<|js<|js<|jr<|jS (jZ1 (vs := mtabV.toList) jj mZq jj jZN)<|jm jj<|jn<|jb ?_
 rw [hZF]
 refine WpD.loop (α := {i : Nat // i ≤ m}) (fun i => ⟨[(1, .one (ex (.bool bnd))), (2, .ptr 2 0), (4, .ptr 4 0), (5, .one (ex (.int .i64 0))), (29, .one (aggP (rows mtc 12))), (30, .one (ex (.int .i64 (i.1 : Int))))], [(2, [ex (.int .i64 ce), ex (.int .i64 d), ex (.int .i64 s), ex (.bool false), ex (.int .i64 y)]), (4, [ex (.int .i64 0), ex (.int .i64 0)])]⟩) (fun i => m - i.1) ⟨0, Nat.zero_le _⟩ ?_ ?_
 ·exact Sub.mk sJ sJ
 rintro ⟨i, hi⟩
 dsimp only at hi ⊢
 have hq : ((rows mtc 12).drop (i * 5)).take 5 = mtc i := bZt (f := mtc) (fun _ => rfl) oM
 have hi12 : i < 12 := oM
 have e1 := wS i oM
 obtain ⟨hb1, hb2⟩ := mZu ⟨i, hi12⟩
 dsimp only at hb1 hb2
 by_cases hlt : i < m
 ·have hn := hno i hlt
  rw [show mtc i = [ex (.bool (mro i).1), ex (.bool (mro i).2.1), ex (.int .i64 (mro i).2.2.1), ex (.int .i64 (mro i).2.2.2.1), ex (.int .i64 (mro i).2.2.2.2)] from rfl] at hq
  generalize mro i = r at *
  obtain ⟨r0, r1, r2, r3, r4⟩ := r
  dsimp only at hn hq
  by_cases q0 : r0 = false
  ·have v0 : (r0 == false) = true := by rw [q0]; rfl
   by_cases q1 : r1 = bnd
   ·have v1 : (r1 == bnd) = true := by rw [q1]; exact beq_self_eq_true _
    have q2 : r2 ≠ 0 := fun h => hn ⟨q0, q1, h⟩
    refine js<|jr<|jS (bLt jj jj)<|jn<|js<|jt jj<|jp<|js<|jb<|js<|jr<|jS (bZ5 jj jj hi12 hq)<|jA jj jj jj<|jP jj jj jj jj<|jn<|js<|jr<|jF jj jj<|jl jj jj jj<|jF jj jj<|jl jj jj jj<|jS (aZf jj jj (fun w => aZN w CBool.ok _ _ _ _) (bZe v0))<|jm jj ?_
    first | refine jgf jj jj ?_ | refine jk ?_ | refine ju ?_
    first | refine jgl jj jj jj ?_ | refine jk ?_ | refine ju ?_
    first | refine jgm jj ?_ | refine jk ?_ | refine ju ?_
    first | refine jg (aZf jj jj (fun w => aZN w CBool.ok _ _ _ _) (bZe v1)) ?_ | refine jk ?_ | refine ju ?_
    first | refine jq jj jj ?_ | refine jQ jj jj ?_
    refine jm jj ?_
    first | refine jgf jj jj ?_ | refine jk ?_ | refine ju ?_
    first | refine jgl jj jj jj ?_ | refine jk ?_ | refine ju ?_
    first | refine jgm jj ?_ | refine jk ?_ | refine ju ?_
    first | refine jg (bEf jj jj) ?_ | refine jk ?_ | refine ju ?_
    first | refine jq jj jj ?_ | refine jQ jj jj ?_
    refine jn<|jf jj<|jp<|jr<|jS (bAd jj jj e1)<|jm jj<|jn ?_
    refine ⟨⟨i + 1, oM⟩, ?_, oD⟩
    exact Sub.mk sJ sJ
   ·have v1 : (r1 == bnd) = false := by rw [beq_eq_false_iff_ne]; exact q1
    refine js<|jr<|jS (bLt jj jj)<|jn<|js<|jt jj<|jp<|js<|jb<|js<|jr<|jS (bZ5 jj jj hi12 hq)<|jA jj jj jj<|jP jj jj jj jj<|jn<|js<|jr<|jF jj jj<|jl jj jj jj<|jF jj jj<|jl jj jj jj<|jS (aZf jj jj (fun w => aZN w CBool.ok _ _ _ _) (bZe v0))<|jm jj ?_
    first | refine jgf jj jj ?_ | refine jk ?_ | refine ju ?_
    first | refine jgl jj jj jj ?_ | refine jk ?_ | refine ju ?_
    first | refine jgm jj ?_ | refine jk ?_ | refine ju ?_
    first | refine jg (aZf jj jj (fun w => aZN w CBool.ok _ _ _ _) (bZe v1)) ?_ | refine jk ?_ | refine ju ?_
    first | refine jq jj jj ?_ | refine jQ jj jj ?_
    refine jm jj ?_
    first | refine jgf jj jj ?_ | refine jk ?_ | refine ju ?_
    first | refine jgl jj jj jj ?_ | refine jk ?_ | refine ju ?_
    first | refine jgm jj ?_ | refine jk ?_ | refine ju ?_
    first | refine jg (bEf jj jj) ?_ | refine jk ?_ | refine ju ?_
    first | refine jq jj jj ?_ | refine jQ jj jj ?_
    refine jn<|jf jj<|jp<|jr<|jS (bAd jj jj e1)<|jm jj<|jn ?_
    refine ⟨⟨i + 1, oM⟩, ?_, oD⟩
    exact Sub.mk sJ sJ
  ·have v0 : (r0 == false) = false := by rw [beq_eq_false_iff_ne]; exact q0
   refine js<|jr<|jS (bLt jj jj)<|jn<|js<|jt jj<|jp<|js<|jb<|js<|jr<|jS (bZ5 jj jj hi12 hq)<|jA jj jj jj<|jP jj jj jj jj<|jn<|js<|jr<|jF jj jj<|jl jj jj jj<|jF jj jj<|jl jj jj jj<|jS (aZf jj jj (fun w => aZN w CBool.ok _ _ _ _) (bZe v0))<|jm jj ?_
   first | refine jgf jj jj ?_ | refine jk ?_ | refine ju ?_
   first | refine jgl jj jj jj ?_ | refine jk ?_ | refine ju ?_
   first | refine jgm jj ?_ | refine jk ?_ | refine ju ?_
   first | refine jg (aZ6 jj jj (fun w => aZN w CBool.ok _ _ _ _)) ?_ | refine jk ?_ | refine ju ?_
   first | refine jq jj jj ?_ | refine jQ jj jj ?_
   refine jm jj ?_
   first | refine jgf jj jj ?_ | refine jk ?_ | refine ju ?_
   first | refine jgl jj jj jj ?_ | refine jk ?_ | refine ju ?_
   first | refine jgm jj ?_ | refine jk ?_ | refine ju ?_
   first | refine jg (bEf jj jj) ?_ | refine jk ?_ | refine ju ?_
   first | refine jq jj jj ?_ | refine jQ jj jj ?_
   refine jn<|jf jj<|jp<|jr<|jS (bAd jj jj e1)<|jm jj<|jn ?_
   refine ⟨⟨i + 1, oM⟩, ?_, oD⟩
   exact Sub.mk sJ sJ
 ·have : i = m := oM
  subst this
  rw [show mtc i = [ex (.bool (mro i).1), ex (.bool (mro i).2.1), ex (.int .i64 (mro i).2.2.1), ex (.int .i64 (mro i).2.2.2.1), ex (.int .i64 (mro i).2.2.2.2)] from rfl] at hq
  unfold rowS
  generalize mro i = r at *
  obtain ⟨r0, r1, r2, r3, r4⟩ := r
  dsimp only at hq ho hb hk hb1 hb2 ⊢
  have v0 : (r0 == false) = true := by rw [ho]; rfl
  have v1 : (r1 == bnd) = true := by rw [hb]; exact beq_self_eq_true _
  have e2 : IntKind.i64.wrap (d + r3) = d + r3 := w64 oM oM
  by_cases h2 : r4 = 2
  ·rw [if_pos h2]
   refine js<|jr<|jS (bLt jj jj)<|jn<|js<|jt jj<|jp<|js<|jb<|js<|jr<|jS (bZ5 jj jj hi12 hq)<|jA jj jj jj<|jP jj jj jj jj<|jn<|js<|jr<|jF jj jj<|jl jj jj jj<|jF jj jj<|jl jj jj jj<|jS (aZf jj jj (fun w => aZN w CBool.ok _ _ _ _) (bZe v0))<|jm jj ?_
   first | refine jgf jj jj ?_ | refine jk ?_ | refine ju ?_
   first | refine jgl jj jj jj ?_ | refine jk ?_ | refine ju ?_
   first | refine jgm jj ?_ | refine jk ?_ | refine ju ?_
   first | refine jg (aZf jj jj (fun w => aZN w CBool.ok _ _ _ _) (bZe v1)) ?_ | refine jk ?_ | refine ju ?_
   first | refine jq jj jj ?_ | refine jQ jj jj ?_
   refine jm jj ?_
   first | refine jgf jj jj ?_ | refine jk ?_ | refine ju ?_
   first | refine jgl jj jj jj ?_ | refine jk ?_ | refine ju ?_
   first | refine jgm jj ?_ | refine jk ?_ | refine ju ?_
   first | refine jg (bEt jj jj) ?_ | refine jk ?_ | refine ju ?_
   first | refine jq jj jj ?_ | refine jQ jj jj ?_
   refine jn<|jt jj<|js<|jr<|jF jj jj<|jl jj jj jj<|jF jj jj<|jl jj jj jj<|jS (bAd jj jj e2)<|jF jj jj<|jl jj jj jj<|jS (aZj (ps := [(_, _), (_, _)]) ⟨jj, Part.c jj, jj, Part.c jj, trivial⟩ jj)<|jA jj jj jj<|jP jj jj jj jj<|jn<|js<|js<|jr<|jF jj jj<|jl jj jj jj<|jS (bEt jj jj)<|jn<|jt jj<|jr<|jF jj jj<|jl jj jj jj<|jF jj jj<|jO (fZi jj jj jj jj jj)<|jn<|js<|jr<|jL jj jj jj<|jP jj jj jj jj<|jn<|ji ?_
   exact rtC rfl jj jj
  ·rw [if_neg h2]
   refine js<|jr<|jS (bLt jj jj)<|jn<|js<|jt jj<|jp<|js<|jb<|js<|jr<|jS (bZ5 jj jj hi12 hq)<|jA jj jj jj<|jP jj jj jj jj<|jn<|js<|jr<|jF jj jj<|jl jj jj jj<|jF jj jj<|jl jj jj jj<|jS (aZf jj jj (fun w => aZN w CBool.ok _ _ _ _) (bZe v0))<|jm jj ?_
   first | refine jgf jj jj ?_ | refine jk ?_ | refine ju ?_
   first | refine jgl jj jj jj ?_ | refine jk ?_ | refine ju ?_
   first | refine jgm jj ?_ | refine jk ?_ | refine ju ?_
   first | refine jg (aZf jj jj (fun w => aZN w CBool.ok _ _ _ _) (bZe v1)) ?_ | refine jk ?_ | refine ju ?_
   first | refine jq jj jj ?_ | refine jQ jj jj ?_
   refine jm jj ?_
   first | refine jgf jj jj ?_ | refine jk ?_ | refine ju ?_
   first | refine jgl jj jj jj ?_ | refine jk ?_ | refine ju ?_
   first | refine jgm jj ?_ | refine jk ?_ | refine ju ?_
   first | refine jg (bEt jj jj) ?_ | refine jk ?_ | refine ju ?_
   first | refine jq jj jj ?_ | refine jQ jj jj ?_
   refine jn<|jt jj<|js<|jr<|jF jj jj<|jl jj jj jj<|jF jj jj<|jl jj jj jj<|jS (bAd jj jj e2)<|jF jj jj<|jl jj jj jj<|jS (aZj (ps := [(_, _), (_, _)]) ⟨jj, Part.c jj, jj, Part.c jj, trivial⟩ jj)<|jA jj jj jj<|jP jj jj jj jj<|jn<|js<|js<|jr<|jF jj jj<|jl jj jj jj<|jS (bEf jj jj)<|jn<|jf jj<|jp<|js<|jr<|jL jj jj jj<|jP jj jj jj jj<|jn<|ji ?_
   exact rtC rfl jj jj
set_option maxHeartbeats 1000000 in
theorem jZQ (ce d s key : Int) (m : Nat) (hd1 : 0 ≤ d) (hd2 : d ≤ 100) (hs : s ≠ -1) (hf : fits true false key m) : Fn Tryz.prog TabD 75 [aggP (coc ⟨ce, d, s, true, key⟩), ex (.bool false)] (rowS d s m) := by
 obtain ⟨hm, ho, hb, hk, hno⟩ := hf
 unfold coc
 dsimp only
 refine aZb Tryz.func75 rfl Tryz.ntmps75 rfl ?_
 intro w0 h0
 refine js<|jr<|jB jj jj jj<|jA jj jj jj<|jn<|js<|jr<|ja jj<|jn<|js<|jb<|js<|jr<|jF jj jj<|jl jj jj jj<|jm jj ?_
 first | refine jgm jj ?_ | refine jk ?_ | refine ju ?_
 first | refine jq jj jj ?_ | refine jQ jj jj ?_
 refine ja jj<|jn<|jf jj<|js<|jr<|jF jj jj<|jl jj jj jj<|ja jj<|jn<|jt jj<|js<|jr<|jF jj jj<|jl jj jj jj<|ja jj<|jn<|js<|jr<|jF jj jj<|jl jj jj jj<|jS (bEf jj jj)<|jn<|jf jj<|jp<|js<|js<|jr<|jS (jZ1 (vs := mtabV.toList) jj mZq jj jZN)<|jm jj<|jn<|jb ?_
 rw [hZF]
 refine WpD.loop (α := {i : Nat // i ≤ m}) (fun i => ⟨[(1, .one (ex (.bool false))), (2, .ptr 2 0), (4, .ptr 4 0), (5, .one (ex (.int .i64 key))), (29, .one (aggP (rows mtc 12))), (30, .one (ex (.int .i64 (i.1 : Int))))], [(2, [ex (.int .i64 ce), ex (.int .i64 d), ex (.int .i64 s), ex (.bool true), ex (.int .i64 key)]), (4, [ex (.int .i64 0), ex (.int .i64 0)])]⟩) (fun i => m - i.1) ⟨0, Nat.zero_le _⟩ ?_ ?_
 ·exact Sub.mk sJ sJ
 rintro ⟨i, hi⟩
 dsimp only at hi ⊢
 have hq : ((rows mtc 12).drop (i * 5)).take 5 = mtc i := bZt (f := mtc) (fun _ => rfl) oM
 have hi12 : i < 12 := oM
 have e1 := wS i oM
 obtain ⟨hb1, hb2⟩ := mZu ⟨i, hi12⟩
 dsimp only at hb1 hb2
 by_cases hlt : i < m
 ·have hn := hno i hlt
  rw [show mtc i = [ex (.bool (mro i).1), ex (.bool (mro i).2.1), ex (.int .i64 (mro i).2.2.1), ex (.int .i64 (mro i).2.2.2.1), ex (.int .i64 (mro i).2.2.2.2)] from rfl] at hq
  generalize mro i = r at *
  obtain ⟨r0, r1, r2, r3, r4⟩ := r
  dsimp only at hn hq
  by_cases q0 : r0 = true
  ·have v0 : (r0 == true) = true := by rw [q0]; rfl
   by_cases q1 : r1 = false
   ·have v1 : (r1 == false) = true := by rw [q1]; exact beq_self_eq_true _
    have q2 : r2 ≠ key := fun h => hn ⟨q0, q1, h⟩
    refine js<|jr<|jS (bLt jj jj)<|jn<|js<|jt jj<|jp<|js<|jb<|js<|jr<|jS (bZ5 jj jj hi12 hq)<|jA jj jj jj<|jP jj jj jj jj<|jn<|js<|jr<|jF jj jj<|jl jj jj jj<|jF jj jj<|jl jj jj jj<|jS (aZf jj jj (fun w => aZN w CBool.ok _ _ _ _) (bZe v0))<|jm jj ?_
    first | refine jgf jj jj ?_ | refine jk ?_ | refine ju ?_
    first | refine jgl jj jj jj ?_ | refine jk ?_ | refine ju ?_
    first | refine jgm jj ?_ | refine jk ?_ | refine ju ?_
    first | refine jg (aZf jj jj (fun w => aZN w CBool.ok _ _ _ _) (bZe v1)) ?_ | refine jk ?_ | refine ju ?_
    first | refine jq jj jj ?_ | refine jQ jj jj ?_
    refine jm jj ?_
    first | refine jgf jj jj ?_ | refine jk ?_ | refine ju ?_
    first | refine jgl jj jj jj ?_ | refine jk ?_ | refine ju ?_
    first | refine jgm jj ?_ | refine jk ?_ | refine ju ?_
    first | refine jg (bEf jj jj) ?_ | refine jk ?_ | refine ju ?_
    first | refine jq jj jj ?_ | refine jQ jj jj ?_
    refine jn<|jf jj<|jp<|jr<|jS (bAd jj jj e1)<|jm jj<|jn ?_
    refine ⟨⟨i + 1, oM⟩, ?_, oD⟩
    exact Sub.mk sJ sJ
   ·have v1 : (r1 == false) = false := by rw [beq_eq_false_iff_ne]; exact q1
    refine js<|jr<|jS (bLt jj jj)<|jn<|js<|jt jj<|jp<|js<|jb<|js<|jr<|jS (bZ5 jj jj hi12 hq)<|jA jj jj jj<|jP jj jj jj jj<|jn<|js<|jr<|jF jj jj<|jl jj jj jj<|jF jj jj<|jl jj jj jj<|jS (aZf jj jj (fun w => aZN w CBool.ok _ _ _ _) (bZe v0))<|jm jj ?_
    first | refine jgf jj jj ?_ | refine jk ?_ | refine ju ?_
    first | refine jgl jj jj jj ?_ | refine jk ?_ | refine ju ?_
    first | refine jgm jj ?_ | refine jk ?_ | refine ju ?_
    first | refine jg (aZf jj jj (fun w => aZN w CBool.ok _ _ _ _) (bZe v1)) ?_ | refine jk ?_ | refine ju ?_
    first | refine jq jj jj ?_ | refine jQ jj jj ?_
    refine jm jj ?_
    first | refine jgf jj jj ?_ | refine jk ?_ | refine ju ?_
    first | refine jgl jj jj jj ?_ | refine jk ?_ | refine ju ?_
    first | refine jgm jj ?_ | refine jk ?_ | refine ju ?_
    first | refine jg (bEf jj jj) ?_ | refine jk ?_ | refine ju ?_
    first | refine jq jj jj ?_ | refine jQ jj jj ?_
    refine jn<|jf jj<|jp<|jr<|jS (bAd jj jj e1)<|jm jj<|jn ?_
    refine ⟨⟨i + 1, oM⟩, ?_, oD⟩
    exact Sub.mk sJ sJ
  ·have v0 : (r0 == true) = false := by rw [beq_eq_false_iff_ne]; exact q0
   refine js<|jr<|jS (bLt jj jj)<|jn<|js<|jt jj<|jp<|js<|jb<|js<|jr<|jS (bZ5 jj jj hi12 hq)<|jA jj jj jj<|jP jj jj jj jj<|jn<|js<|jr<|jF jj jj<|jl jj jj jj<|jF jj jj<|jl jj jj jj<|jS (aZf jj jj (fun w => aZN w CBool.ok _ _ _ _) (bZe v0))<|jm jj ?_
   first | refine jgf jj jj ?_ | refine jk ?_ | refine ju ?_
   first | refine jgl jj jj jj ?_ | refine jk ?_ | refine ju ?_
   first | refine jgm jj ?_ | refine jk ?_ | refine ju ?_
   first | refine jg (aZ6 jj jj (fun w => aZN w CBool.ok _ _ _ _)) ?_ | refine jk ?_ | refine ju ?_
   first | refine jq jj jj ?_ | refine jQ jj jj ?_
   refine jm jj ?_
   first | refine jgf jj jj ?_ | refine jk ?_ | refine ju ?_
   first | refine jgl jj jj jj ?_ | refine jk ?_ | refine ju ?_
   first | refine jgm jj ?_ | refine jk ?_ | refine ju ?_
   first | refine jg (bEf jj jj) ?_ | refine jk ?_ | refine ju ?_
   first | refine jq jj jj ?_ | refine jQ jj jj ?_
   refine jn<|jf jj<|jp<|jr<|jS (bAd jj jj e1)<|jm jj<|jn ?_
   refine ⟨⟨i + 1, oM⟩, ?_, oD⟩
   exact Sub.mk sJ sJ
 ·have : i = m := oM
  subst this
  rw [show mtc i = [ex (.bool (mro i).1), ex (.bool (mro i).2.1), ex (.int .i64 (mro i).2.2.1), ex (.int .i64 (mro i).2.2.2.1), ex (.int .i64 (mro i).2.2.2.2)] from rfl] at hq
  unfold rowS
  generalize mro i = r at *
  obtain ⟨r0, r1, r2, r3, r4⟩ := r
  dsimp only at hq ho hb hk hb1 hb2 ⊢
  have v0 : (r0 == true) = true := by rw [ho]; rfl
  have v1 : (r1 == false) = true := by rw [hb]; exact beq_self_eq_true _
  have e2 : IntKind.i64.wrap (d + r3) = d + r3 := w64 oM oM
  by_cases h2 : r4 = 2
  ·rw [if_pos h2]
   refine js<|jr<|jS (bLt jj jj)<|jn<|js<|jt jj<|jp<|js<|jb<|js<|jr<|jS (bZ5 jj jj hi12 hq)<|jA jj jj jj<|jP jj jj jj jj<|jn<|js<|jr<|jF jj jj<|jl jj jj jj<|jF jj jj<|jl jj jj jj<|jS (aZf jj jj (fun w => aZN w CBool.ok _ _ _ _) (bZe v0))<|jm jj ?_
   first | refine jgf jj jj ?_ | refine jk ?_ | refine ju ?_
   first | refine jgl jj jj jj ?_ | refine jk ?_ | refine ju ?_
   first | refine jgm jj ?_ | refine jk ?_ | refine ju ?_
   first | refine jg (aZf jj jj (fun w => aZN w CBool.ok _ _ _ _) (bZe v1)) ?_ | refine jk ?_ | refine ju ?_
   first | refine jq jj jj ?_ | refine jQ jj jj ?_
   refine jm jj ?_
   first | refine jgf jj jj ?_ | refine jk ?_ | refine ju ?_
   first | refine jgl jj jj jj ?_ | refine jk ?_ | refine ju ?_
   first | refine jgm jj ?_ | refine jk ?_ | refine ju ?_
   first | refine jg (bEt jj jj) ?_ | refine jk ?_ | refine ju ?_
   first | refine jq jj jj ?_ | refine jQ jj jj ?_
   refine jn<|jt jj<|js<|jr<|jF jj jj<|jl jj jj jj<|jF jj jj<|jl jj jj jj<|jS (bAd jj jj e2)<|jF jj jj<|jl jj jj jj<|jS (aZj (ps := [(_, _), (_, _)]) ⟨jj, Part.c jj, jj, Part.c jj, trivial⟩ jj)<|jA jj jj jj<|jP jj jj jj jj<|jn<|js<|js<|jr<|jF jj jj<|jl jj jj jj<|jS (bEt jj jj)<|jn<|jt jj<|jr<|jF jj jj<|jl jj jj jj<|jF jj jj<|jO (fZi jj jj jj jj jj)<|jn<|js<|jr<|jL jj jj jj<|jP jj jj jj jj<|jn<|ji ?_
   exact rtC rfl jj jj
  ·rw [if_neg h2]
   refine js<|jr<|jS (bLt jj jj)<|jn<|js<|jt jj<|jp<|js<|jb<|js<|jr<|jS (bZ5 jj jj hi12 hq)<|jA jj jj jj<|jP jj jj jj jj<|jn<|js<|jr<|jF jj jj<|jl jj jj jj<|jF jj jj<|jl jj jj jj<|jS (aZf jj jj (fun w => aZN w CBool.ok _ _ _ _) (bZe v0))<|jm jj ?_
   first | refine jgf jj jj ?_ | refine jk ?_ | refine ju ?_
   first | refine jgl jj jj jj ?_ | refine jk ?_ | refine ju ?_
   first | refine jgm jj ?_ | refine jk ?_ | refine ju ?_
   first | refine jg (aZf jj jj (fun w => aZN w CBool.ok _ _ _ _) (bZe v1)) ?_ | refine jk ?_ | refine ju ?_
   first | refine jq jj jj ?_ | refine jQ jj jj ?_
   refine jm jj ?_
   first | refine jgf jj jj ?_ | refine jk ?_ | refine ju ?_
   first | refine jgl jj jj jj ?_ | refine jk ?_ | refine ju ?_
   first | refine jgm jj ?_ | refine jk ?_ | refine ju ?_
   first | refine jg (bEt jj jj) ?_ | refine jk ?_ | refine ju ?_
   first | refine jq jj jj ?_ | refine jQ jj jj ?_
   refine jn<|jt jj<|js<|jr<|jF jj jj<|jl jj jj jj<|jF jj jj<|jl jj jj jj<|jS (bAd jj jj e2)<|jF jj jj<|jl jj jj jj<|jS (aZj (ps := [(_, _), (_, _)]) ⟨jj, Part.c jj, jj, Part.c jj, trivial⟩ jj)<|jA jj jj jj<|jP jj jj jj jj<|jn<|js<|js<|jr<|jF jj jj<|jl jj jj jj<|jS (bEf jj jj)<|jn<|jf jj<|jp<|js<|jr<|jL jj jj jj<|jP jj jj jj jj<|jn<|ji ?_
   exact rtC rfl jj jj
end
end Go.Proofs.YtfmjdlogjmofbaaGreatDoor

/- Texts of small numbers: slices.Reverse, integer.Format, rational.Format. -/
import Derived.Test.YtfmjdlogjmofbaaGreatDoorMem
import Derived.Test.YtfmjdlogjmofbaaGreatDoorRb
import Derived.Test.YtfmjdlogjmofbaaGreatDoorMdo
import Derived.OpenShut
import Derived.ChangeSlices
import Derived.ChangeSame
import Derived.WalkKit
import Derived.ProofKit
import Derived.Test.YtfmjdlogjmofbaaGreatDoorW
set_option maxRecDepth 3000
namespace Go.Proofs.YtfmjdlogjmofbaaGreatDoor
section
open Go.RowKit Limb
instance cint_u8 : CInt Tryz.prog 5 .u8 := ⟨Tryz.underlying5⟩
instance cone_u8 : COne Tryz.prog 5 := ⟨⟨_, Tryz.underlying5, rfl, by kernel_rfl⟩⟩
instance cslice_u8 : CSlice Tryz.prog 172 5 := ⟨Tryz.underlying172⟩
instance celem_u8 : CElem Tryz.prog 172 5 1 := ⟨Tryz.underlying172, by kernel_rfl⟩
instance crowz_u8 : CRowZ Tryz.prog 5 1 [.int .u8 0] 1 := ⟨by kernel_rfl, rfl, rfl⟩
instance cstr : CStr Tryz.prog 9 := ⟨Tryz.underlying9⟩
instance cbody126 : CBody Tryz.prog 126 := ⟨⟨_, Tryz.func126, rfl, by rfl⟩⟩
instance cbody68 : CBody Tryz.prog 68 := ⟨⟨_, Tryz.func68, rfl, by rfl⟩⟩
instance cbody23 : CBody Tryz.prog 23 := ⟨⟨_, Tryz.func23, rfl, by rfl⟩⟩
def RevI (l : List Nat) (i : Nat) (m : List Nat) : Prop := m.length = l.length ∧ ∀ j, j < l.length → m[j]? = if j < i ∨ l.length - i ≤ j then l[l.length - 1 - j]? else l[j]?
theorem RevI.step {l m : List Nat} {i x y : Nat} (h : RevI l i m) (hi : i < l.length - 1 - i) (hx : m[l.length - 1 - i]? = some x) (hy : m[i]? = some y) : RevI l (i + 1) ((m.set i x).set (l.length - 1 - i) y) := by
 obtain ⟨h1, h2⟩ := h
 refine ⟨by simp [h1], fun j hj => ?_⟩
 have gx := h2 (l.length - 1 - i) oM
 rw [if_neg oM, hx] at gx
 have gy := h2 i oM
 rw [if_neg oM, hy] at gy
 by_cases e1 : j = l.length - 1 - i
 ·subst e1
  rw [List.getElem?_set_self (by simp [h1]; omega), if_pos oM, show l.length - 1 - (l.length - 1 - i) = i by omega, ← gy]
 ·rw [List.getElem?_set_ne oM]
  by_cases e2 : j = i
  ·subst e2
   rw [List.getElem?_set_self oM, if_pos oM, ← gx]
  ·rw [List.getElem?_set_ne oM, h2 j hj]
   by_cases e3 : j < i ∨ l.length - i ≤ j
   ·rw [if_pos e3, if_pos oM]
   ·rw [if_neg e3, if_neg oM]
theorem RevI.done {l m : List Nat} {i : Nat} (h : RevI l i m) (hi : ¬ ((i : Int) < (l.length : Int) - 1 - i)) : m = l.reverse := by
 obtain ⟨h1, h2⟩ := h
 apply List.ext_getElem?
 intro j
 by_cases hj : j < l.length
 ·rw [h2 j hj, List.getElem?_reverse hj]
  by_cases e : j < i ∨ l.length - i ≤ j
  ·rw [if_pos e]
  ·rw [if_neg e]; congr 1; omega
 ·rw [List.getElem?_eq_none oM, List.getElem?_eq_none (by simp; omega)]
section
variable (En : Ev)
theorem kZv (l : List Nat) (cap : Nat) (hl : l.length ≤ 1000000) : FnG Tryz.prog En 126 [.own 1000 0 l.length cap] [(1000, l.map byt)] (.one (ex (.tuple #[]))) [(1000, l.reverse.map byt)] := by
 have e0 : IntKind.i64.wrap ((l.length : Int) - 1) = (l.length : Int) - 1 - (0 : Nat) := by rw [w64 oM oM]; simp
 refine aZr Tryz.func126 rfl Tryz.ntmps126 rfl ?_
 intro w0 h0 c
 refine js<|jr<|jm jj<|jS (aZE jj CSlice.ok)<|jS (bSu jj jj e0)<|ja jj<|ja jj<|jn<|jb ?_
 refine WpD.loop (α := {p : Nat × List Nat // p.1 ≤ l.length ∧ RevI l p.1 p.2}) (fun p => ⟨[(0, .own 1000 0 l.length cap), (2, .one (ex (.int .i64 ((p.1.1 : Nat) : Int)))), (3, .one (ex (.int .i64 ((l.length : Int) - 1 - (p.1.1 : Nat)))))], [(1000, p.1.2.map byt)]⟩) (fun p => l.length - p.1.1) ⟨(0, l), oM, rfl, fun j hj => by rw [if_neg oM]⟩ ?_ ?_
 ·exact Sub.mk sJ sJ
 rintro ⟨⟨i, m⟩, hi, hm⟩
 dsimp only at hi hm ⊢
 by_cases hlt : (i : Int) < (l.length : Int) - 1 - i
 ·have hml := hm.1
  have i1 : i < l.length - 1 - i := oM
  obtain ⟨x, hx⟩ : ∃ x, m[l.length - 1 - i]? = some x := ⟨m[l.length - 1 - i]'oM, List.getElem?_eq_getElem oM⟩
  obtain ⟨y, hy⟩ : ∃ y, m[i]? = some y := ⟨m[i]'oM, List.getElem?_eq_getElem oM⟩
  have hst := hm.step i1 hx hy
  have ei : (l.length : Int) - 1 - (i : Nat) = ((l.length - 1 - i : Nat) : Int) := oM
  have gx : (m.map byt)[l.length - 1 - i]? = some (byt x) := by rw [List.getElem?_map, hx]; rfl
  have gy : (m.map byt)[i]? = some (byt y) := by rw [List.getElem?_map, hy]; rfl
  have s1 : (m.map byt).set i (byt x) = (m.set i x).map byt := by rw [List.map_set]
  have s2 : ((m.set i x).map byt).set (l.length - 1 - i) (byt y) = ((m.set i x).set (l.length - 1 - i) y).map byt := by rw [List.map_set, List.map_set, List.map_set]
  have l1 : i < (m.map byt).length := by simp; omega
  have l2 : l.length - 1 - i < ((m.set i x).map byt).length := by simp; omega
  have e2 := wS i oM
  have e3 : IntKind.i64.wrap (((l.length - 1 - i : Nat) : Int) - 1) = (l.length : Int) - 1 - ((i + 1 : Nat) : Int) := by rw [w64 oM oM]; omega
  rw [ei] at hlt ⊢
  refine js<|js<|jr<|jm jj<|jm jj<|jS (bLt jj jj)<|jn<|jt jj<|jp<|js<|jb<|jr<|jm jj<|jm jj<|jm jj<|jm jj<|jm jj<|jm jj<|jS (cZF jj jj oM (o' := l.length - 1 - i) oM)<|jS (aZ9 jj jj aM)<|jm jj<|jm jj<|jS (cZF jj jj oM (o' := i) oM)<|jS (aZ9 jj jj aM)<|jS (cZF jj jj oM (o' := i) oM)<|jO (aZK jj jj jj aM aM)<|jS (cZF jj jj oM (o' := l.length - 1 - i) oM)<|jO (aZK jj jj jj aM aM)<|jn<|jr<|jm jj<|jS (bAd jj jj e2)<|jm jj<|jS (bSu jj jj e3)<|ja jj<|ja jj<|jn ?_
  refine ⟨⟨(i + 1, (m.set i x).set (l.length - 1 - i) y), oM, hst⟩, ?_, oD⟩
  exact Sub.mk sJ sJ
 ·have hd := hm.done hlt
  subst hd
  refine js<|js<|jr<|jm jj<|jm jj<|jS (bLf jj jj)<|jn<|jf jj<|je ?_
  exact oZq rfl ⟨.inl pQ, trivial⟩
def dgt (n j : Nat) : Nat := 48 + n / 10 ^ j % 10
def dgts (n i : Nat) : List Nat := (List.range i).map (dgt n)
theorem nZd (n i : Nat) : dgts n (i + 1) = dgts n i ++ [dgt n i] := by unfold dgts; rw [List.range_succ, List.map_append]; rfl
theorem dZb (n i : Nat) : (dgts n i).length = i := by simp [dgts]
def fmtL (z : Int) (k : Nat) : List Nat := (dgts z.natAbs k ++ (if z < 0 then [45] else [])).reverse
theorem nZc (n : Nat) {i j : Nat} (h : i ≤ j) : (dgts n j).take i = dgts n i := by
 unfold dgts
 rw [← List.map_take, List.take_range, Nat.min_eq_left h]
theorem PsLe.take : ∀ (ps : List Pd) (k : Nat), PsLe ps (ps.take k)
 | [], k => by rw [List.take_nil]; trivial
 | _ :: _, 0 => by trivial
 | p :: ps, k + 1 => ⟨PLe.refl p, PsLe.take ps k⟩
set_option maxHeartbeats 2000000 in
theorem mZJ (z : Int) (k : Nat) (hz : z.natAbs < 10 ^ k) (hk : k ≤ 9) (hk1 : 10 ^ (k - 1) ≤ z.natAbs) (hk0 : 0 < k) : Fn Tryz.prog En 68 [zC z] (ex (.string (txt (fmtL z k)))) := by
 have hpow : 10 ^ k ≤ 10 ^ 9 := Nat.pow_le_pow_right oM hk
 have hpos : 0 < 10 ^ (k - 1) := Nat.pow_pos oM
 unfold zC zR fmtL
 have hsb : (if z < 0 then [45] else []) = (if decide (z < 0) then [45] else [] : List Nat) := by simp
 rw [hsb]
 generalize z.natAbs = n at *
 generalize decide (z < 0) = sb
 have h9 : n < 1000000000 := oM
 have hn0 : n ≠ 0 := oM
 have hd : digs n = [n] := by rw [aZR hn0, Nat.mod_eq_of_lt (by rw [aZv]; omega), show n / B = 0 from Nat.div_eq_of_lt (by rw [aZv]; omega)]; rfl
 have hlm1 : Lm [n] := by rw [← hd]; exact aZg n
 have hlm0 : Lm [0] := Lm.cons (by rw [aZv]; omega) Lm.nil
 have v1 : val [n] = n := by simp [val]
 rw [hd]
 have C1 := cZx En [n] hlm1 (by simp)
 rw [v1, hd] at C1
 have C2 := eZw En [n] (by simp) (by simp)
 have C3 := jZJ En [n] [] 1000000000 1 (by simp) hlm1 oM (by rw [aZv]; omega)
 rw [v1, Nat.mod_eq_of_lt h9, Nat.div_eq_of_lt h9, List.append_nil, List.append_nil, show pd 0 [n].length = [0] from rfl] at C3
 have C4 := cZx En [0] hlm0 (by simp)
 rw [show val [0] = 0 from rfl, bZz] at C4
 have hp0 := bZv (l := [0]) (cap := 1) (by simp) hlm0
 have e00 : n / 10 ^ 0 = n := by simp
 refine aZb Tryz.func68 rfl Tryz.ntmps68 rfl ?_
 intro w0 h0
 refine js<|jr<|jB jj jj jj<|ja jj<|jn<|js<|jr<|jF jj jj<|jl jj jj jj<|jS (aZa C1 tA)<|jT (gZ7 C2 jj tA jj jj)<|ja jj<|jn<|js<|js<|jr<|jm jj<|jS (aZE jj CSlice.ok)<|jS (bEf jj jj (by simp))<|jn<|jf jj<|jp<|js<|jr<|ja jj<|jn<|js<|jb ?_
 refine WpD.loop (α := Bool) (fun b => cond b ⟨[(1, .ptr 1 0), (3, .own 9 0 1 1), (4, .one (ex (.slice none 0 0)))], [(1, [ex (.bool sb), mag [n]]), (9, [lb n])]⟩ ⟨[(1, .ptr 1 0), (3, .one (mag [])), (4, .app 504 1 9)], [(1, [ex (.bool sb), mag [n]]), (504, (dgts n 9).map byt), (754, [])]⟩) (fun b => cond b 1 0) true ?_ ?_
 ·exact Sub.mk sJ sJ
 rintro (_ | _)
 ·dsimp only [cond]
  refine js<|js<|jr<|jm jj<|jE jj<|jS (bGf jj jj (by simp))<|jn<|jf jj<|je<|js<|jb ?_
  refine WpD.loop (α := {j : Nat // k ≤ j ∧ j ≤ 9}) (fun j => ⟨[(1, .ptr 1 0), (4, .app 504 1 j.1)], [(1, [ex (.bool sb), mag [n]]), (504, (dgts n 9).map byt), (754, [])]⟩) (fun j => j.1) ⟨9, hk, oM⟩ ?_ ?_
  ·exact Sub.mk sJ sJ
  rintro ⟨j, hj1, hj2⟩
  dsimp only at hj1 hj2 ⊢
  have e5 : IntKind.i64.wrap ((j : Int) - 1) = ((j - 1 : Nat) : Int) := by rw [w64 oM oM]; omega
  have hget : ((dgts n 9).map byt)[j - 1]? = some (byt (dgt n (j - 1))) := by unfold dgts; rw [List.getElem?_map, List.getElem?_map, List.getElem?_range oM]; rfl
  by_cases hjk : k < j
  ·have hdz : ((dgt n (j - 1) : Nat) : Int) = 48 := by
    unfold dgt
    rw [Nat.div_eq_of_lt (Nat.lt_of_lt_of_le hz (Nat.pow_le_pow_right oM oM))]
    rfl
   refine js<|js<|jr<|jm jj<|jm jj<|jS (cZQ jj CSlice.ok)<|jS (bSu jj jj e5)<|jS (dZi jj jj oM (o := j - 1) oM)<|jS (aZ9 jj jj aM)<|jS (bEt jj jj)<|jn<|jt jj<|jp<|jb<|jr<|jm jj<|jm jj<|jS (cZQ jj CSlice.ok)<|jS (bSu jj jj e5)<|jS (kZ9 jj jj oM oM)<|ja jj<|jn ?_
   refine ⟨⟨j - 1, oM, oM⟩, ?_, oD⟩
   exact Sub.mk sJ sJ
  ·have hjk : j = k := oM
   subst hjk
   have hdz : ((dgt n (j - 1) : Nat) : Int) ≠ 48 := by
    unfold dgt
    have hq1 : 1 ≤ n / 10 ^ (j - 1) := (Nat.le_div_iff_mul_le hpos).2 oM
    have hq2 : n / 10 ^ (j - 1) < 10 := by
     rw [Nat.div_lt_iff_lt_mul hpos]
     have : 10 ^ j = 10 * 10 ^ (j - 1) := by rw [← Nat.pow_succ']; congr 1; omega
     omega
    rw [Nat.mod_eq_of_lt hq2]; omega
   refine js<|js<|jr<|jm jj<|jm jj<|jS (cZQ jj CSlice.ok)<|jS (bSu jj jj e5)<|jS (dZi jj jj oM (o := j - 1) oM)<|jS (aZ9 jj jj aM)<|jS (bEf jj jj)<|jn<|jf jj<|je<|js<|js ?_
   have hps : PsLe ((dgts n 9).map byt) ((dgts n j).map byt) := by
    have := PsLe.take ((dgts n 9).map byt) j
    rwa [← List.map_take, nZc n hj2] at this
   refine WpD.sub (τ := ⟨[(1, .ptr 1 0), (4, .app 504 1 j)], [(1, [ex (.bool sb), mag [n]]), (504, (dgts n j).map byt), (754, [])]⟩) ?_ ?_
   ·exact Sub.mk sJ ⟨.inl pQ, .inl ⟨_, jj, hps⟩, .inr jj, trivial⟩
   have hlen : ((dgts n j).map byt).length = j * 1 := by simp [dZb]
   cases sb with
   | true =>
    have hL : (dgts n j ++ [45]).length = j + 1 := by simp [dZb]
    have hr2 : (dgts n j).map byt ++ [ex (.int .u8 45)] = (dgts n j ++ [45]).map byt := by rw [List.map_append]; rfl
    have C7 := kZv En (dgts n j ++ [45]) (j + 1) oM
    rw [hL] at C7
    have hL2 : (dgts n j ++ [45]).reverse.length = j + 1 := by simp [dZb]
    refine kO ?_
    refine jr<|jF jj jj<|jl jj jj jj<|jn<|jt jj<|jr<|jm jj<|jS (aZ5 (ps := [(_, _)]) ⟨jj, Part.c jj, trivial⟩ jj jj jj)<|RG.SW (LT.plain jj (aZD 548 jj jj hlen jj oM oM jj jj jj jj jj hr2)) jj<|ja jj<|jn<|js ?_
    refine WpD.sub (τ := ⟨[(4, .own 300 0 (j + 1) (j + 1))], [(300, (dgts n j ++ [45]).map byt)]⟩) ?_ ?_
    ·refine Sub.ren 300 548 rfl ?_ ?_ rfl
     ·repeat (first | exact trivial | refine ⟨.inl ⟨pK, trivial, trivial⟩, ?_⟩ | refine ⟨.inr ⟨_, _, rfl, .inl rfl, ⟨Option.some_ne_none _, Option.some_ne_none _⟩⟩, ?_⟩ | refine ⟨.inl ⟨⟨_, rfl, rfl⟩, Option.some_ne_none _, ⟨aD, aD⟩⟩, ?_⟩ | refine ⟨.inl ⟨⟨_, rfl, rfl⟩, ⟨Option.some_ne_none _, Option.some_ne_none _⟩, ⟨aD, aD, aD, aD⟩⟩, ?_⟩ | refine ⟨.inl ⟨⟨_, rfl, rfl⟩, cZo (Option.some_ne_none _) (Option.some_ne_none _), bZK aD aD aD aD⟩, ?_⟩ | refine ⟨.inr ⟨_, _, rfl, .inr ⟨oM, rfl⟩, Option.some_ne_none _⟩, ?_⟩)
     ·repeat (first | exact trivial | refine ⟨.inr ⟨aD, .inr rfl⟩, ?_⟩ | refine ⟨.inl ⟨rfl, _, rfl, PsLe.refl _⟩, ?_⟩ | refine ⟨.inr ⟨aD, .inl ⟨aD, _, rfl, PsLe.refl _⟩⟩, ?_⟩)
    refine kO ?_
    refine jr<|jm jj<|jT (aZT (fun _ => 300) C7 ⟨⟨jj, Option.some_ne_none _⟩, trivial⟩ tA jj jj jj)<|jn<|js<|jr<|jm jj<|jS (lZI Tryz.underlying172 Tryz.underlying5 Tryz.underlying9 jj jj hL2 oM)<|ja jj<|jn<|ji ?_
    exact rtT rfl jj
   | false =>
    have hL : (dgts n j).length = j := dZb n j
    have C7 := kZv En (dgts n j) j oM
    rw [hL] at C7
    have hL2 : (dgts n j).reverse.length = j := by simp [dZb]
    have hfin : (dgts n j ++ (if (false : Bool) = true then [45] else [])).reverse = (dgts n j).reverse := by simp
    rw [hfin]
    refine kO ?_
    refine jr<|jF jj jj<|jl jj jj jj<|jn<|jf jj<|jp<|js ?_
    refine WpD.sub (τ := ⟨[(4, .own 300 0 j j)], [(300, (dgts n j).map byt)]⟩) ?_ ?_
    ·refine Sub.ren 300 504 rfl ?_ ?_ rfl
     ·repeat (first | exact trivial | refine ⟨.inl ⟨pK, trivial, trivial⟩, ?_⟩ | refine ⟨.inr ⟨_, _, rfl, .inl rfl, ⟨Option.some_ne_none _, Option.some_ne_none _⟩⟩, ?_⟩ | refine ⟨.inl ⟨⟨_, rfl, rfl⟩, Option.some_ne_none _, ⟨aD, aD⟩⟩, ?_⟩ | refine ⟨.inl ⟨⟨_, rfl, rfl⟩, ⟨Option.some_ne_none _, Option.some_ne_none _⟩, ⟨aD, aD, aD, aD⟩⟩, ?_⟩ | refine ⟨.inl ⟨⟨_, rfl, rfl⟩, cZo (Option.some_ne_none _) (Option.some_ne_none _), bZK aD aD aD aD⟩, ?_⟩ | refine ⟨.inr ⟨_, _, rfl, .inr ⟨oM, rfl⟩, Option.some_ne_none _⟩, ?_⟩)
     ·repeat (first | exact trivial | refine ⟨.inr ⟨aD, .inr rfl⟩, ?_⟩ | refine ⟨.inl ⟨rfl, _, rfl, PsLe.refl _⟩, ?_⟩ | refine ⟨.inr ⟨aD, .inl ⟨aD, _, rfl, PsLe.refl _⟩⟩, ?_⟩)
    refine kO ?_
    refine jr<|jm jj<|jT (aZT (fun _ => 300) C7 ⟨⟨jj, Option.some_ne_none _⟩, trivial⟩ tA jj jj jj)<|jn<|js<|jr<|jm jj<|jS (lZI Tryz.underlying172 Tryz.underlying5 Tryz.underlying9 jj jj hL2 oM)<|ja jj<|jn<|ji ?_
    exact rtT rfl jj
 ·dsimp only [cond]
  refine js<|js<|jr<|jm jj<|jS (aZE jj CSlice.ok)<|jS (bGt jj jj)<|jn<|jt jj<|jp<|jb<|js<|jr<|jm jj<|jT (aZT (fun _ => 9) C3 ⟨⟨jj, Option.some_ne_none _⟩, jj, trivial⟩ tA jj jj jj)<|ja jj<|jn<|js ?_
  refine WpD.sub (τ := ⟨[(1, .ptr 1 0), (3, .one (mag [0])), (4, .one (ex (.slice none 0 0))), (5, .one (lb n))], [(1, [ex (.bool sb), mag [n]])]⟩) ?_ ?_
  ·refine Sub.pub 9 rfl rfl ?_ ?_ rfl
   ·repeat (first | exact trivial | refine ⟨.inl ⟨pK, trivial⟩, ?_⟩ | refine ⟨.inl ⟨⟨_, rfl, rfl⟩, Option.some_ne_none _⟩, ?_⟩ | refine ⟨.inl ⟨⟨_, rfl, rfl⟩, ⟨Option.some_ne_none _, Option.some_ne_none _⟩⟩, ?_⟩ | refine ⟨.inr (.inl ⟨_, _, _, _, rfl, rfl, hp0⟩), ?_⟩ | refine ⟨.inr (.inr (.inl ⟨_, _, _, rfl, rfl, hp0⟩)), ?_⟩)
   ·repeat (first | exact trivial | refine jz ?_ | refine jy rfl ?_)
  refine kO ?_
  refine jr<|jm jj<|jS (aZa C4 tA)<|ja jj<|jn<|js<|jr<|jm jj<|jn<|jb ?_
  refine WpD.loop (α := {i : Nat // i ≤ 9}) (fun i => ⟨[(1, .ptr 1 0), (3, .one (mag [])), (4, .app 504 1 i.1), (5, .one (lb (n / 10 ^ i.1))), (20, .one (ex (.int .i64 ((i.1 : Nat) : Int))))], [(1, [ex (.bool sb), mag [n]]), (504, (dgts n i.1).map byt), (754, [])]⟩) (fun i => 9 - i.1) ⟨0, oM⟩ ?_ ?_
  ·dsimp only
   rw [e00]
   exact Sub.mk sJ sJ
  rintro ⟨i, hi⟩
  dsimp only at hi ⊢
  by_cases hi9 : i < 9
  ·have e1 : ((n / 10 ^ i : Nat) : Int).tmod 10 = ((n / 10 ^ i % 10 : Nat) : Int) := (Int.ofNat_tmod _ 10).symm
   have hlt : n / 10 ^ i % 10 < 10 := Nat.mod_lt _ oM
   have e2 : IntKind.u32.wrap (48 + ((n / 10 ^ i % 10 : Nat) : Int)) = ((dgt n i : Nat) : Int) := by rw [IntKind.wrap_u32]; unfold dgt; omega
   have e3 : IntKind.u8.wrap ((dgt n i : Nat) : Int) = ((dgt n i : Nat) : Int) := by unfold dgt; rw [IntKind.wrap_u8]; omega
   have hq : n / 10 ^ i / 10 = n / 10 ^ (i + 1) := by rw [Nat.div_div_eq_div_mul, Nat.pow_succ]
   have hle : n / 10 ^ (i + 1) ≤ n := Nat.div_le_self _ _
   have e4 : IntKind.u32.wrap (((n / 10 ^ i : Nat) : Int).tdiv 10) = ((n / 10 ^ (i + 1) : Nat) : Int) := by
    rw [show ((n / 10 ^ i : Nat) : Int).tdiv 10 = ((n / 10 ^ i / 10 : Nat) : Int) from (Int.ofNat_tdiv _ 10).symm, hq, IntKind.wrap_u32]
    have h0 := Int.natCast_nonneg (n / 10 ^ (i + 1))
    have h1 : ((n / 10 ^ (i + 1) : Nat) : Int) ≤ (n : Int) := by exact_mod_cast hle
    generalize ((n / 10 ^ (i + 1) : Nat) : Int) = q at h0 h1 ⊢
    omega
   have e6 := wS i oM
   have hlen : ((dgts n i).map byt).length = i * 1 := by simp [dZb]
   have hr : (dgts n i).map byt ++ [ex (.int .u8 ((dgt n i : Nat) : Int))] = (dgts n (i + 1)).map byt := by rw [nZd, List.map_append]; rfl
   refine js<|jr<|jS (bLt jj jj)<|jn<|js<|jt jj<|jp<|js<|jb<|js<|jr<|jm jj<|jm jj<|jS (bRe jj jj e1)<|jS (bAd jj jj e2)<|jS (bCv jj e3)<|jS (aZ5 (ps := [(_, _)]) ⟨jj, Part.c jj, trivial⟩ jj jj jj)<|RG.SW (LT.plain jj (aZD 528 jj jj hlen jj oM oM jj jj jj jj jj hr)) jj<|ja jj<|jn<|jr<|jm jj<|jS (bQu jj jj e4)<|ja jj<|jn<|jr<|jS (bAd jj jj e6)<|jm jj<|jn ?_
   refine ⟨⟨i + 1, oM⟩, ?_, oD⟩
   refine Sub.ren 504 528 rfl ?_ ?_ rfl
   ·repeat (first | exact trivial | refine ⟨.inl ⟨pK, trivial, trivial⟩, ?_⟩ | refine ⟨.inr ⟨_, _, rfl, .inl rfl, ⟨Option.some_ne_none _, Option.some_ne_none _⟩⟩, ?_⟩ | refine ⟨.inl ⟨⟨_, rfl, rfl⟩, Option.some_ne_none _, ⟨aD, aD⟩⟩, ?_⟩ | refine ⟨.inl ⟨⟨_, rfl, rfl⟩, ⟨Option.some_ne_none _, Option.some_ne_none _⟩, ⟨aD, aD, aD, aD⟩⟩, ?_⟩ | refine ⟨.inl ⟨⟨_, rfl, rfl⟩, cZo (Option.some_ne_none _) (Option.some_ne_none _), bZK aD aD aD aD⟩, ?_⟩ | refine ⟨.inr ⟨_, _, rfl, .inr ⟨oM, rfl⟩, Option.some_ne_none _⟩, ?_⟩)
   ·repeat (first | exact trivial | refine ⟨.inr ⟨aD, .inr rfl⟩, ?_⟩ | refine ⟨.inl ⟨rfl, _, rfl, PsLe.refl _⟩, ?_⟩ | refine ⟨.inr ⟨aD, .inl ⟨aD, _, rfl, PsLe.refl _⟩⟩, ?_⟩)
  ·have hi9 : i = 9 := oM
   subst hi9
   refine js<|jr<|jS (bLf jj jj)<|jn<|js<|jf jj<|je ?_
   refine ⟨false, ?_, by decide⟩
   dsimp only [cond]
   exact Sub.mk sJ sJ
end
end
section
open Go.RowKit Limb Num
instance cbody22 : CBody Tryz.prog 22 := ⟨⟨_, Tryz.func22, rfl, by rfl⟩⟩
instance cbody8 : CBody Tryz.prog 8 := ⟨⟨_, Tryz.func8, rfl, by rfl⟩⟩
def mpr (p : Int) (sd : Int → Nat) (ss : Int → Int) (R : Rat) : Nat → Rat
 | 0 => R
 | k + 1 => if 0 < sd ((k : Int) - 1) then mpr p sd ss R k * dia p (sd ((k : Int) - 1)) (ss ((k : Int) - 1)) else mpr p sd ss R k
theorem mZw {p : Int} {sd : Int → Nat} {ss : Int → Int} {R : Rat} (h1 : 2 ≤ p) (h2 : p ≤ 9973) (hd : ∀ e, sd e ≤ 9) (hs : ∀ e, -1 ≤ ss e ∧ ss e ≤ 1) (hR : Sz 1000 R) : ∀ k, Sz (k * 200 + 1000) (mpr p sd ss R k)
 | 0 => hR.mono oM
 | k + 1 => by
  rw [mpr]
  split
  ·exact (dZg (mZw h1 h2 hd hs hR k) (jZl h1 h2 (hs _).1 (hs _).2 (hd _))).mono oM
  ·exact (mZw h1 h2 hd hs hR k).mono oM
set_option maxHeartbeats 1000000 in
theorem mMass (En : Ev) (p : Int) (f : Nat → Co) (n : Nat) (H : OkL f n) (hp : 2 ≤ p) (hp2 : p ≤ 9973) (R : Rat) (hb : Bool) (hR : Sz 900 R)
  (hX : Fn Tryz.prog En 24 [locP p f n] (tupP [gZS R hb, ex (.int .i64 0)]))
  (hT : Fn Tryz.prog En 25 [locP p f n] (tupP [ex (.int .i64 0), ex (.int .i64 0)]))
  (sd : Int → Nat) (ss : Int → Int) (hd : ∀ e, sd e ≤ 9) (hs : ∀ e, -1 ≤ ss e ∧ ss e ≤ 1)
  (hS : ∀ e, -1 ≤ e → e ≤ 1000 → Fn Tryz.prog En 29 [locP p f n, ex (.int .i64 e)] (aggP [ex (.int .i64 (sd e : Int)), ex (.int .i64 (ss e))])) :
  Fn Tryz.prog En 9 [locP p f n] (tupP [gZS (mpr p sd ss (((2 : Int) : Rat) ^ 0 * R) ((f (n - 1)).e.toNat + 3)) hb, ex (.int .i64 0)]) := by
 have hn1 := H.n1
 have hlt : n - 1 < n := oM
 have he0 := H.e0 _ hlt
 have he1 := H.e1 _ hlt
 have hq : ((rows (ccs f) n).drop ((n - 1) * 5)).take 5 = coc (f (n - 1)) := bZt (cZb f) hlt
 have wz : IntKind.i64.wrap ((n : Int) - 1) = ((n - 1 : Nat) : Int) := by have := H.n8; rw [w64 oM oM]; omega
 have W2 := fZs En 2 oM oM
 have S2 := sz_z (z := 2) oM oM
 have C1 := krpow En ((2 : Int) : Rat) 0 (S2.mono oM) oM
 have C2 := mZD En (((2 : Int) : Rat) ^ 0) R ((eZn S2 0).mono oM) (hR.mono oM)
 have hR' : Sz 1000 (((2 : Int) : Rat) ^ 0 * R) := (dZg (eZn S2 0) hR).mono oM
 generalize ((2 : Int) : Rat) ^ 0 * R = R0 at *
 obtain ⟨L, hL⟩ : ∃ L : Nat, (f (n - 1)).e = (L : Int) := ⟨(f (n - 1)).e.toNat, oM⟩
 rw [show coc (f (n - 1)) = [ex (.int .i64 (L : Int)), ex (.int .i64 (f (n - 1)).d), ex (.int .i64 (f (n - 1)).s), ex (.bool (f (n - 1)).o), ex (.int .i64 (f (n - 1)).y)] by unfold coc; rw [hL]] at hq
 rw [hL] at he0 he1 ⊢
 rw [Int.toNat_natCast]
 unfold locP gZS at *
 refine aZb Tryz.func9 rfl Tryz.ntmps9 rfl ?_
 intro w0 h0
 refine js<|jr<|jB jj jj jj<|jA jj jj jj<|ja jj<|jn<|js<|jr<|jL jj jj jj<|jS (aZa hX ⟨jj, trivial⟩)<|jm jj<|jx' jj jj<|jx' jj jj<|jA jj jj jj<|jP jj jj jj jj<|ja jj<|jn<|js<|js<|jr<|jm jj<|jS (bNf jj jj)<|jn<|jf jj<|jp<|js<|jr<|jL jj jj jj<|jS (aZa hT ⟨jj, trivial⟩)<|jm jj<|jx' jj jj<|jx' jj jj<|ja jj<|ja jj<|jn<|js<|jr<|jS (aZa W2 ⟨jj, trivial⟩)<|jm jj<|jS (aZa C1 ⟨jj, jj, trivial⟩)<|jm jj<|jx' jj jj<|jx' jj jj<|jA jj jj jj<|jP jj jj jj jj<|ja jj<|jn ?_
 refine js<|jr<|jL jj jj jj<|jF jj jj<|jL jj jj jj<|jS (aZa C2 ⟨jj, jj, trivial⟩)<|jP jj jj jj jj<|jn<|js<|jr<|jF jj jj<|jl jj jj jj<|jF jj jj<|jl jj jj jj<|jE jj<|jS (bSu jj jj wz)<|jS (aZm jj jj hlt hq)<|jS (eZC jj jj)<|jS (aZh jj jj)<|ja jj<|jn<|js<|js<|jr<|ja jj<|jn<|jb ?_
 refine WpD.loop (α := {k : Nat // k ≤ L + 3}) (fun k => ⟨[(1, .ptr 1 0), (2, .ptr 2 0), (4, .ptr 4 0), (8, .ptr 8 0), (10, .one (ex (.int .i64 (L : Int)))), (11, .one (ex (.int .i64 ((k.1 : Int) - 1))))], [(1, [ex (.int .i64 p), slc 5 (rows (ccs f) n) n]), (2, [ex (.bool false), ex (.slice none 0 0), ex (.bool false), ex (.slice none 0 0), ex (.bool false)]), (4, hZ4 R ++ [ex (.bool hb)]), (8, hZ4 (mpr p sd ss R0 k.1))]⟩) (fun k => L + 3 - k.1) ⟨0, Nat.zero_le _⟩ ?_ ?_
 ·exact Sub.mk sJ sJ
 rintro ⟨k, hk⟩
 dsimp only at hk ⊢
 have w1 : IntKind.i64.wrap ((L : Int) + 1) = (L : Int) + 1 := w64 oM oM
 by_cases hlk : k < L + 3
 ·have w2 : IntKind.i64.wrap ((k : Int) - 1 + 1) = ((k + 1 : Nat) : Int) - 1 := by rw [w64 oM oM]; omega
  have C3 := hS ((k : Int) - 1) oM oM
  have Sk := mZw hp hp2 hd hs hR' k
  have hd' := hd ((k : Int) - 1)
  have hs' := hs ((k : Int) - 1)
  have hm : mpr p sd ss R0 (k + 1) = if 0 < sd ((k : Int) - 1) then mpr p sd ss R0 k * dia p (sd ((k : Int) - 1)) (ss ((k : Int) - 1)) else mpr p sd ss R0 k := rfl
  generalize sd ((k : Int) - 1) = D at *
  generalize ss ((k : Int) - 1) = S at *
  by_cases h0D : 0 < D
  ·rw [if_pos h0D] at hm
   have C4 := eZd En p S D hp hp2 hs'.1 hs'.2 hd'
   have C5 := mZD En (mpr p sd ss R0 k) (dia p D S) (Sk.mono oM) ((jZl hp hp2 hs'.1 hs'.2 hd').mono oM)
   rw [← hm] at C5
   refine js<|js<|jr<|jm jj<|jm jj<|jS (bAd jj jj w1)<|jS (bMt jj jj)<|jn<|jt jj<|jp<|js<|jb<|js<|jr<|jL jj jj jj<|jm jj<|jS (aZa C3 ⟨jj, jj, trivial⟩)<|jA jj jj jj<|jP jj jj jj jj<|jn<|js<|jr<|jF jj jj<|jl jj jj jj<|jS (bGt jj jj)<|jn<|jt jj<|jr<|jL jj jj jj<|jF jj jj<|jl jj jj jj<|jL jj jj jj<|jS (aZa C4 ⟨jj, jj, trivial⟩)<|jS (aZa C5 ⟨jj, jj, trivial⟩)<|jP jj jj jj jj<|jn<|jr<|jm jj<|jS (bAd jj jj w2)<|ja jj<|jn ?_
   refine ⟨⟨k + 1, oM⟩, ?_, oD⟩
   exact Sub.mk sJ sJ
  ·rw [if_neg h0D] at hm
   refine js<|js<|jr<|jm jj<|jm jj<|jS (bAd jj jj w1)<|jS (bMt jj jj)<|jn<|jt jj<|jp<|js<|jb<|js<|jr<|jL jj jj jj<|jm jj<|jS (aZa C3 ⟨jj, jj, trivial⟩)<|jA jj jj jj<|jP jj jj jj jj<|jn<|js<|jr<|jF jj jj<|jl jj jj jj<|jS (bGf jj jj)<|jn<|jf jj<|jp<|jr<|jm jj<|jS (bAd jj jj w2)<|ja jj<|jn ?_
   refine ⟨⟨k + 1, oM⟩, ?_, oD⟩
   dsimp only
   rw [hm]
   exact Sub.mk sJ sJ
 ·have : k = L + 3 := oM
  subst this
  refine js<|js<|jr<|jm jj<|jm jj<|jS (bAd jj jj w1)<|jS (bMf jj jj)<|jn<|jf jj<|je<|js<|jr<|jL jj jj jj<|jF jj jj<|jl jj jj jj<|jS (aZj (ps := [(_, _), (_, _)]) ⟨jj, Part.c jj, jj, Part.c jj, trivial⟩ jj)<|jP jj jj jj jj<|ja jj<|jn<|ji ?_
  exact rtD rfl jj jj jj
end
section
open Go.RowKit Limb Num
instance cbody177 : CBody Tryz.prog 177 := ⟨⟨_, Tryz.func177, rfl, by rfl⟩⟩
instance cbody78 : CBody Tryz.prog 78 := ⟨⟨_, Tryz.func78, rfl, by rfl⟩⟩
instance cbody129 : CBody Tryz.prog 129 := ⟨⟨_, Tryz.func129, rfl, by rfl⟩⟩
def dsm (f : Nat → Co) : Nat → Int
 | 0 => 0
 | i + 1 => dsm f i + (f i).d
structure OddL (f : Nat → Co) (n : Nat) : Prop extends OkL f n where
 e6 : ∀ i, i < n → (f i).e ≤ 60
 sg : ∀ i, i < n → (f i).s = 1 ∨ (f i).s = -1
 od : ∀ i, i < n → (f i).o = false
 oy : ∀ i, i < n → (f i).y = 0
 sm : dsm f n ≤ 8
theorem qZ7 {f : Nat → Co} {n : Nat} (H : OddL f n) : ∀ {i : Nat}, i ≤ n → (i : Int) ≤ dsm f i
 | 0, _ => by simp [dsm]
 | i + 1, h => by
  have := qZ7 H (i := i) oM
  have := H.d0 i oM
  rw [dsm]
  omega
theorem qZ6 {f : Nat → Co} {n : Nat} (H : OddL f n) : ∀ (j : Nat) {i : Nat}, i + j = n → dsm f i ≤ dsm f n
 | 0, i, h => by rw [show i = n by omega]; exact Int.le_refl _
 | j + 1, i, h => by
  have := qZ6 H j (i := i + 1) oM
  have := H.d0 i oM
  have h2 : dsm f (i + 1) = dsm f i + (f i).d := rfl
  omega
theorem oZT {f : Nat → Co} {n i : Nat} (H : OddL f n) (h : i < n) : 0 ≤ dsm f i ∧ dsm f i + (f i).d ≤ 8 := by
 have h1 := qZ7 H (i := i) oM
 have h2 := qZ6 H (n - (i + 1)) (i := i + 1) oM
 have h3 := H.sm
 have h4 : dsm f (i + 1) = dsm f i + (f i).d := rfl
 omega
theorem co_lit {f : Nat → Co} {n i : Nat} (H : OddL f n) (h : i < n) : coc (f i) = [ex (.int .i64 (f i).e), ex (.int .i64 (f i).d), ex (.int .i64 (f i).s), ex (.bool false), ex (.int .i64 0)] := by
 unfold coc
 rw [H.od i h, H.oy i h]
section
variable (En : Ev)
theorem rodd (p : Int) (hp : smP p = true) (h3 : 3 ≤ p) : Fn Tryz.prog En 78 [ex (.int .i64 p)] (ex (.bool true)) := by
 have C1 := rsmall En p
 rw [hp] at C1
 refine aZb Tryz.func78 rfl Tryz.ntmps78 rfl ?_
 intro w0 h0
 refine js<|jr<|ja jj<|jn<|js<|jr<|jm jj<|jS (bNt jj jj)<|jm jj (jgm jj (jg (aZa C1 tA) (jq jj jj (ja jj (jn (ji ?_))))))
 exact rtT rfl jj
end
set_option maxHeartbeats 1000000 in
theorem svalid (p : Int) (f : Nat → Co) (n : Nat) (H : OddL f n) (hp : smP p = true) (h3 : 3 ≤ p) : Fn Tryz.prog TabD 129 [locP p f n] (ex (.bool true)) := by
 have hn8 := H.n8
 have hn1 := H.n1
 obtain ⟨p1, p2, p3⟩ := jZo hp
 have C1 := (fis p).tab
 rw [p3] at C1
 unfold locP
 refine aZb Tryz.func129 rfl Tryz.ntmps129 rfl ?_
 intro w0 h0
 refine js<|jr<|jB jj jj jj<|ja jj<|jn<|js<|js<|jr<|jF jj jj<|jl jj jj jj<|jS (bMf jj jj)<|jm jj (jgf jj jj (jgl jj jj jj (jg (bGf jj jj) (jQ jj jj (jm jj (jgf jj jj (jgl jj jj jj (jg (aZa C1 tA) (jg (bNo jj) (jQ jj jj (jm jj ?_)))))))))))
 first | refine jgf jj jj ?_ | refine jk ?_ | refine ju ?_
 first | refine jgl jj jj jj ?_ | refine jk ?_ | refine ju ?_
 first | refine jg (bZo jj CSlice.ok) ?_ | refine jk ?_ | refine ju ?_
 first | refine jg (bEf jj jj) ?_ | refine jk ?_ | refine ju ?_
 first | refine jq jj jj ?_ | refine jQ jj jj ?_
 refine jn<|jf jj<|jp<|js<|jr<|ja jj<|ja jj<|jn<|js<|js<|jr<|jF jj jj<|jl jj jj jj<|jE jj<|jm jj<|jn<|jb ?_
 refine WpD.loop (α := {i : Nat // i ≤ n}) (fun i => ⟨[(3, .one (ex (.int .i64 (dsm f i.1)))), (4, .one (ex (.int .i64 (if i.1 = 0 then -1 else (f (i.1 - 1)).e)))), (28, .one (slc 5 (rows (ccs f) n) n)), (29, .one (ex (.int .i64 (n : Int)))), (30, .one (ex (.int .i64 (i.1 : Int))))], []⟩) (fun i => n - i.1) ⟨0, Nat.zero_le _⟩ ?_ ?_
 ·exact Sub.mk sJ sJ
 rintro ⟨i, hi⟩
 dsimp only at hi ⊢
 by_cases hlt : i < n
 ·have hq : ((rows (ccs f) n).drop (i * 5)).take 5 = coc (f i) := bZt (cZb f) hlt
  rw [co_lit H hlt] at hq
  have w1 := wS i oM
  obtain ⟨m1, m2⟩ := oZT H hlt
  have g1 := H.e0 i hlt
  have g2 := H.e6 i hlt
  have g3 := H.d0 i hlt
  have g4 := H.d8 i hlt
  have w2 : IntKind.i64.wrap (8 - dsm f i) = 8 - dsm f i := w64 oM oM
  have w3 : IntKind.i64.wrap (dsm f i + (f i).d) = dsm f (i + 1) := w64 oM oM
  have g5 : (if i = 0 then -1 else (f (i - 1)).e) < (f i).e := by
   split
   ·omega
   ·exact H.up (i - 1) i oM hlt
  have g6 : (if i + 1 = 0 then -1 else (f (i + 1 - 1)).e) = (f i).e := by rw [if_neg oM, Nat.add_sub_cancel]
  generalize (if i = 0 then -1 else (f (i - 1)).e) = last at *
  rcases H.sg i hlt with hs | hs
  ·refine js<|jr<|jS (bLt jj jj)<|jn<|js<|jt jj<|jp<|js<|jb<|js<|jr<|jS (aZm jj jj hlt hq)<|jS (aZq jj jj jj)<|jA jj jj jj<|jP jj jj jj jj<|jn<|js<|js<|jr<|jF jj jj<|jl jj jj jj<|jm jj<|jS (bMf jj jj)<|jm jj (jgf jj jj (jgl jj jj jj (jg (bGf jj jj) (jQ jj jj (jm jj (jgf jj jj (jgl jj jj jj (jg (bLf jj jj) (jQ jj jj (jm jj (jgf jj jj (jgl jj jj jj (jgm jj (jg (bSu jj jj w2) (jg (bGf jj jj) (jQ jj jj (jn ?_)))))))))))))))))
   refine jf jj<|jp<|js<|js<|jr<|jF jj jj<|jl jj jj jj<|jS (bNf jj jj)<|jm jj<|jk<|jk<|jk<|jQ jj jj<|jm jj (jgf jj jj (jgl jj jj jj (jQ jj jj (jm jj ?_))))
   first | refine jgf jj jj ?_ | refine jk ?_ | refine ju ?_
   first | refine jgl jj jj jj ?_ | refine jk ?_ | refine ju ?_
   first | refine jg (bNf jj jj) ?_ | refine jk ?_ | refine ju ?_
   first | refine jq jj jj ?_ | refine jQ jj jj ?_
   refine jn<|jf jj<|jp<|js<|jr<|jm jj<|jF jj jj<|jl jj jj jj<|jS (bAd jj jj w3)<|ja jj<|jn<|jr<|jF jj jj<|jl jj jj jj<|ja jj<|jn<|jr<|jS (bAd jj jj w1)<|jm jj<|jn ?_
   refine ⟨⟨i + 1, oM⟩, ?_, oD⟩
   dsimp only
   rw [g6]
   exact Sub.mk sJ sJ
  ·refine js<|jr<|jS (bLt jj jj)<|jn<|js<|jt jj<|jp<|js<|jb<|js<|jr<|jS (aZm jj jj hlt hq)<|jS (aZq jj jj jj)<|jA jj jj jj<|jP jj jj jj jj<|jn<|js<|js<|jr<|jF jj jj<|jl jj jj jj<|jm jj<|jS (bMf jj jj)<|jm jj (jgf jj jj (jgl jj jj jj (jg (bGf jj jj) (jQ jj jj (jm jj (jgf jj jj (jgl jj jj jj (jg (bLf jj jj) (jQ jj jj (jm jj (jgf jj jj (jgl jj jj jj (jgm jj (jg (bSu jj jj w2) (jg (bGf jj jj) (jQ jj jj (jn ?_)))))))))))))))))
   refine jf jj<|jp<|js<|js<|jr<|jF jj jj<|jl jj jj jj<|jS (bNt jj jj)<|jm jj (jgf jj jj (jgl jj jj jj (jg (bNf jj jj) (jq jj jj (jm jj (jgf jj jj (jgl jj jj jj (jQ jj jj (jm jj ?_)))))))))
   first | refine jgf jj jj ?_ | refine jk ?_ | refine ju ?_
   first | refine jgl jj jj jj ?_ | refine jk ?_ | refine ju ?_
   first | refine jg (bNf jj jj) ?_ | refine jk ?_ | refine ju ?_
   first | refine jq jj jj ?_ | refine jQ jj jj ?_
   refine jn<|jf jj<|jp<|js<|jr<|jm jj<|jF jj jj<|jl jj jj jj<|jS (bAd jj jj w3)<|ja jj<|jn<|jr<|jF jj jj<|jl jj jj jj<|ja jj<|jn<|jr<|jS (bAd jj jj w1)<|jm jj<|jn ?_
   refine ⟨⟨i + 1, oM⟩, ?_, oD⟩
   dsimp only
   rw [g6]
   exact Sub.mk sJ sJ
 ·have : i = n := oM
  subst this
  refine js<|jr<|jS (bLf jj jj)<|jn<|js<|jf jj<|je<|js<|jr<|ja jj<|jn<|ji ?_
  exact rtT rfl jj
theorem oaccept (p : Int) (f : Nat → Co) (n : Nat) (H : OddL f n) (hp : smP p = true) (h3 : 3 ≤ p) : Fn Tryz.prog TabD 69 [locP p f n] (ex (.bool true)) := by
 have C1 := svalid p f n H hp h3
 unfold locP at C1 ⊢
 refine aZb Tryz.func69 rfl Tryz.ntmps69 rfl ?_
 intro w0 h0
 refine js<|jr<|jB jj jj jj<|ja jj<|jn<|js<|js<|jr<|jF jj jj<|jl jj jj jj<|jS (bEf jj jj)<|jn<|jf jj<|jp<|js<|jr<|jL jj jj jj<|jS (aZa C1 ⟨jj, trivial⟩)<|ja jj<|jn<|ji ?_
 exact rtT rfl jj
end
section
open Go.RowKit Limb Num
section
variable {P : Program} {En : Ev} {n : Nat} {sl : Sl} {bx : Bx} {dst : Option Tmp} {ty : TypeId} {pos : String} {after : Array Edge} {guard : Option (Nat × Bool)}
end
structure By where
 b : Nat → Int
 lo : ∀ j, 0 ≤ b j
 hi : ∀ j, b j ≤ 255
section
variable (En : Ev)
end
end
section
open Go.RowKit Limb Go.ChangeShapes Go.WideShapes
def wGH (W : World) : GH := fun b o => W.cell? ⟨b, o, none⟩
theorem lZm (W : World) : Holds (wGH W) W := fun _ _ _ h => h
section
variable {H : Type} {enc : TypeId × Value → H} {P : Program} {W : World} {base : Nat} {T t8 ts te : TypeId} {f0 f1 : Field}
end
end
end Go.Proofs.YtfmjdlogjmofbaaGreatDoor

/- Texts of small numbers: slices.Reverse, integer.Format, rational.Format. -/
import Derived.Test.YtdieokoenhncfaaGreatDoorMem
import Derived.Test.YtdieokoenhncfaaGreatDoorRb
import Derived.Test.YtdieokoenhncfaaGreatDoorMdo
set_option maxRecDepth 3000
namespace Go.Proofs.YtdieokoenhncfaaGreatDoor
open Go.RowKit Limb
instance cint_u8 : CInt Tryz.prog 5 .u8 := ⟨Tryz.underlying5⟩
instance cone_u8 : COne Tryz.prog 5 := ⟨⟨_, Tryz.underlying5, rfl, by kernel_rfl⟩⟩
instance cslice_u8 : CSlice Tryz.prog 116 5 := ⟨Tryz.underlying116⟩
instance celem_u8 : CElem Tryz.prog 116 5 1 := ⟨Tryz.underlying116, by kernel_rfl⟩
instance crowz_u8 : CRowZ Tryz.prog 5 1 [.int .u8 0] 1 := ⟨by kernel_rfl, rfl, rfl⟩
instance cstr : CStr Tryz.prog 9 := ⟨Tryz.underlying9⟩
instance cbody93 : CBody Tryz.prog 93 := ⟨⟨_, Tryz.func93, rfl, by rfl⟩⟩
instance cbody51 : CBody Tryz.prog 51 := ⟨⟨_, Tryz.func51, rfl, by rfl⟩⟩
instance cbody25 : CBody Tryz.prog 25 := ⟨⟨_, Tryz.func25, rfl, by rfl⟩⟩
def RevI (l : List Nat) (i : Nat) (m : List Nat) : Prop := m.length = l.length ∧ ∀ j, j < l.length → m[j]? = if j < i ∨ l.length - i ≤ j then l[l.length - 1 - j]? else l[j]?
theorem RevI.step {l m : List Nat} {i x y : Nat} (h : RevI l i m) (hi : i < l.length - 1 - i) (hx : m[l.length - 1 - i]? = some x) (hy : m[i]? = some y) : RevI l (i + 1) ((m.set i x).set (l.length - 1 - i) y) := by
 obtain ⟨h1, h2⟩ := h
 refine ⟨by simp [h1], fun j hj => ?_⟩
 have gx := h2 (l.length - 1 - i) (by omega)
 rw [if_neg (by omega), hx] at gx
 have gy := h2 i (by omega)
 rw [if_neg (by omega), hy] at gy
 by_cases e1 : j = l.length - 1 - i
 ·subst e1
  rw [List.getElem?_set_self (by simp [h1]; omega), if_pos (by omega), show l.length - 1 - (l.length - 1 - i) = i by omega, ← gy]
 ·rw [List.getElem?_set_ne (by omega)]
  by_cases e2 : j = i
  ·subst e2
   rw [List.getElem?_set_self (by omega), if_pos (by omega), ← gx]
  ·rw [List.getElem?_set_ne (by omega), h2 j hj]
   by_cases e3 : j < i ∨ l.length - i ≤ j
   ·rw [if_pos e3, if_pos (by omega)]
   ·rw [if_neg e3, if_neg (by omega)]
theorem RevI.done {l m : List Nat} {i : Nat} (h : RevI l i m) (hi : ¬ ((i : Int) < (l.length : Int) - 1 - i)) : m = l.reverse := by
 obtain ⟨h1, h2⟩ := h
 apply List.ext_getElem?
 intro j
 by_cases hj : j < l.length
 ·rw [h2 j hj, List.getElem?_reverse hj]
  by_cases e : j < i ∨ l.length - i ≤ j
  ·rw [if_pos e]
  ·rw [if_neg e]; congr 1; omega
 ·rw [List.getElem?_eq_none (by omega), List.getElem?_eq_none (by simp; omega)]
section
variable (En : Ev)
theorem hZX (l : List Nat) (cap : Nat) (hl : l.length ≤ 1000000) : FnG Tryz.prog En 93 [.own 1000 0 l.length cap] [(1000, l.map byt)] (.one (ex (.tuple #[]))) [(1000, l.reverse.map byt)] := by
 have e0 : IntKind.i64.wrap ((l.length : Int) - 1) = (l.length : Int) - 1 - (0 : Nat) := by rw [w64 (by omega) (by omega)]; simp
 refine aZL Tryz.func93 rfl Tryz.ntmps93 rfl ?_
 intro w0 h0 c
 refine js (jr (jm jj (jS (cZp jj CSlice.ok) (jS (bSu jj jj e0) (ja jj (ja jj (jn (jb ?_))))))))
 refine WpD.loop (α := {p : Nat × List Nat // p.1 ≤ l.length ∧ RevI l p.1 p.2}) (fun p => ⟨[(0, .own 1000 0 l.length cap), (2, .one (ex (.int .i64 ((p.1.1 : Nat) : Int)))), (3, .one (ex (.int .i64 ((l.length : Int) - 1 - (p.1.1 : Nat)))))], [(1000, p.1.2.map byt)]⟩) (fun p => l.length - p.1.1) ⟨(0, l), by omega, rfl, fun j hj => by rw [if_neg (by omega)]⟩ ?_ ?_
 ·refine Sub.mk ?_ ?_ <;> repeat (first | exact trivial | refine jV jj ?_ | refine jy jj ?_ | refine jw jj (js0 jj) ?_ | refine jz ?_ | refine jw jj ⟨js0 jj, js0 jj⟩ ?_ | refine jx jj ⟨js0 jj, js0 jj⟩ ?_)
 rintro ⟨⟨i, m⟩, hi, hm⟩
 dsimp only at hi hm ⊢
 by_cases hlt : (i : Int) < (l.length : Int) - 1 - i
 ·have hml := hm.1
  have i1 : i < l.length - 1 - i := by omega
  obtain ⟨x, hx⟩ : ∃ x, m[l.length - 1 - i]? = some x := ⟨m[l.length - 1 - i]'(by omega), List.getElem?_eq_getElem (by omega)⟩
  obtain ⟨y, hy⟩ : ∃ y, m[i]? = some y := ⟨m[i]'(by omega), List.getElem?_eq_getElem (by omega)⟩
  have hst := hm.step i1 hx hy
  have ei : (l.length : Int) - 1 - (i : Nat) = ((l.length - 1 - i : Nat) : Int) := by omega
  have gx : (m.map byt)[l.length - 1 - i]? = some (byt x) := by rw [List.getElem?_map, hx]; rfl
  have gy : (m.map byt)[i]? = some (byt y) := by rw [List.getElem?_map, hy]; rfl
  have s1 : (m.map byt).set i (byt x) = (m.set i x).map byt := by rw [List.map_set]
  have s2 : ((m.set i x).map byt).set (l.length - 1 - i) (byt y) = ((m.set i x).set (l.length - 1 - i) y).map byt := by rw [List.map_set, List.map_set, List.map_set]
  have l1 : i < (m.map byt).length := by simp; omega
  have l2 : l.length - 1 - i < ((m.set i x).map byt).length := by simp; omega
  have e2 := wS i (by omega)
  have e3 : IntKind.i64.wrap (((l.length - 1 - i : Nat) : Int) - 1) = (l.length : Int) - 1 - ((i + 1 : Nat) : Int) := by rw [w64 (by omega) (by omega)]; omega
  rw [ei] at hlt ⊢
  refine js (js (jr (jm jj (jm jj (jS (bLt jj jj) (jn (jt jj (jp (js (jb (jr (jm jj (jm jj (jm jj (jm jj (jm jj (jm jj (jS (aZy jj jj (by omega) (o' := l.length - 1 - i) (by omega)) (jS (aZt jj jj (by assumption)) (jm jj (jm jj (jS (aZy jj jj (by omega) (o' := i) (by omega)) (jS (aZt jj jj (by assumption)) (jS (aZy jj jj (by omega) (o' := i) (by omega)) (jO (aZz jj jj jj (by assumption) (by assumption)) (jS (aZy jj jj (by omega) (o' := l.length - 1 - i) (by omega)) (jO (aZz jj jj jj (by assumption) (by assumption)) (jn (jr (jm jj (jS (bAd jj jj e2) (jm jj (jS (bSu jj jj e3) (ja jj (ja jj (jn ?_))))))))))))))))))))))))))))))))))))
  refine ⟨⟨(i + 1, (m.set i x).set (l.length - 1 - i) y), by omega, hst⟩, ?_, by dsimp only; omega⟩
  refine Sub.mk ?_ ?_ <;> repeat (first | exact trivial | refine jV jj ?_ | refine jy jj ?_ | refine jw jj (js0 jj) ?_ | refine jz ?_ | refine jw jj ⟨js0 jj, js0 jj⟩ ?_ | refine jx jj ⟨js0 jj, js0 jj⟩ ?_)
 ·have hd := hm.done hlt
  subst hd
  refine js (js (jr (jm jj (jm jj (jS (bLf jj jj) (jn (jf jj (je ?_))))))))
  exact retG0 rfl ⟨.inl ⟨_, rfl, PsLe.refl _⟩, trivial⟩
def dgt (n j : Nat) : Nat := 48 + n / 10 ^ j % 10
def dgts (n i : Nat) : List Nat := (List.range i).map (dgt n)
theorem kZn (n i : Nat) : dgts n (i + 1) = dgts n i ++ [dgt n i] := by unfold dgts; rw [List.range_succ, List.map_append]; rfl
theorem cZx (n i : Nat) : (dgts n i).length = i := by simp [dgts]
def fmtL (z : Int) (k : Nat) : List Nat := (dgts z.natAbs k ++ (if z < 0 then [45] else [])).reverse
theorem kZm (n : Nat) {i j : Nat} (h : i ≤ j) : (dgts n j).take i = dgts n i := by
 unfold dgts
 rw [← List.map_take, List.take_range, Nat.min_eq_left h]
theorem PsLe.take : ∀ (ps : List Pd) (k : Nat), PsLe ps (ps.take k)
 | [], k => by rw [List.take_nil]; trivial
 | _ :: _, 0 => by trivial
 | p :: ps, k + 1 => ⟨PLe.refl p, PsLe.take ps k⟩
set_option maxHeartbeats 2000000 in
theorem jZR (z : Int) (k : Nat) (hz : z.natAbs < 10 ^ k) (hk : k ≤ 9) (hk1 : 10 ^ (k - 1) ≤ z.natAbs) (hk0 : 0 < k) : Fn Tryz.prog En 51 [zC z] (ex (.string (txt (fmtL z k)))) := by
 have hpow : 10 ^ k ≤ 10 ^ 9 := Nat.pow_le_pow_right (by omega) hk
 have hpos : 0 < 10 ^ (k - 1) := Nat.pow_pos (by omega)
 unfold zC zR fmtL
 have hsb : (if z < 0 then [45] else []) = (if decide (z < 0) then [45] else [] : List Nat) := by simp
 rw [hsb]
 generalize z.natAbs = n at *
 generalize decide (z < 0) = sb
 have h9 : n < 1000000000 := by omega
 have hn0 : n ≠ 0 := by omega
 have hd : digs n = [n] := by rw [aZF hn0, Nat.mod_eq_of_lt (by rw [aZ0]; omega), show n / B = 0 from Nat.div_eq_of_lt (by rw [aZ0]; omega)]; rfl
 have hlm1 : Lm [n] := by rw [← hd]; exact aZk n
 have hlm0 : Lm [0] := Lm.cons (by rw [aZ0]; omega) Lm.nil
 have v1 : val [n] = n := by simp [val]
 rw [hd]
 have C1 := bZL En [n] hlm1 (by simp)
 rw [v1, hd] at C1
 have C2 := dZy En [n] (by simp) (by simp)
 have C3 := hZ4 En [n] [] 1000000000 1 (by simp) hlm1 (by omega) (by rw [aZ0]; omega)
 rw [v1, Nat.mod_eq_of_lt h9, Nat.div_eq_of_lt h9, List.append_nil, List.append_nil, show pd 0 [n].length = [0] from rfl] at C3
 have C4 := bZL En [0] hlm0 (by simp)
 rw [show val [0] = 0 from rfl, bZm] at C4
 have hp0 := bZh (l := [0]) (cap := 1) (by simp) hlm0
 have e00 : n / 10 ^ 0 = n := by simp
 refine aZb Tryz.func51 rfl Tryz.ntmps51 rfl ?_
 intro w0 h0
 refine js (jr (jB jj jj jj (ja jj (jn (js (jr (jF jj jj (jl jj jj jj (jS (aZa C1 ⟨jj, trivial⟩) (jT (dZK C2 jj ⟨jj, trivial⟩ jj jj) (ja jj (jn (js (js (jr (jm jj (jS (cZp jj CSlice.ok) (jS (bEf jj jj (by simp)) (jn (jf jj (jp (js (jr (ja jj (jn (js (jb ?_)))))))))))))))))))))))))))
 refine WpD.loop (α := Bool) (fun b => cond b ⟨[(1, .ptr 1 0), (3, .own 9 0 1 1), (4, .one (ex (.slice none 0 0)))], [(1, [ex (.bool sb), mag [n]]), (9, [lb n])]⟩ ⟨[(1, .ptr 1 0), (3, .one (mag [])), (4, .app 504 1 9)], [(1, [ex (.bool sb), mag [n]]), (504, (dgts n 9).map byt), (754, [])]⟩) (fun b => cond b 1 0) true ?_ ?_
 ·refine Sub.mk ?_ ?_ <;> repeat (first | exact trivial | refine jV jj ?_ | refine jy jj ?_ | refine jw jj (js0 jj) ?_ | refine jz ?_ | refine jw jj ⟨js0 jj, js0 jj⟩ ?_ | refine jx jj ⟨js0 jj, js0 jj⟩ ?_)
 rintro (_ | _)
 ·dsimp only [cond]
  refine js (js (jr (jm jj (jE jj (jS (bGf jj jj (by simp)) (jn (jf jj (je (js (jb ?_))))))))))
  refine WpD.loop (α := {j : Nat // k ≤ j ∧ j ≤ 9}) (fun j => ⟨[(1, .ptr 1 0), (4, .app 504 1 j.1)], [(1, [ex (.bool sb), mag [n]]), (504, (dgts n 9).map byt), (754, [])]⟩) (fun j => j.1) ⟨9, hk, by omega⟩ ?_ ?_
  ·refine Sub.mk ?_ ?_ <;> repeat (first | exact trivial | refine jV jj ?_ | refine jy jj ?_ | refine jw jj (js0 jj) ?_ | refine jz ?_ | refine jw jj ⟨js0 jj, js0 jj⟩ ?_ | refine jx jj ⟨js0 jj, js0 jj⟩ ?_)
  rintro ⟨j, hj1, hj2⟩
  dsimp only at hj1 hj2 ⊢
  have e5 : IntKind.i64.wrap ((j : Int) - 1) = ((j - 1 : Nat) : Int) := by rw [w64 (by omega) (by omega)]; omega
  have hget : ((dgts n 9).map byt)[j - 1]? = some (byt (dgt n (j - 1))) := by unfold dgts; rw [List.getElem?_map, List.getElem?_map, List.getElem?_range (by omega)]; rfl
  by_cases hjk : k < j
  ·have hdz : ((dgt n (j - 1) : Nat) : Int) = 48 := by
    unfold dgt
    rw [Nat.div_eq_of_lt (Nat.lt_of_lt_of_le hz (Nat.pow_le_pow_right (by omega) (by omega)))]
    rfl
   refine js (js (jr (jm jj (jm jj (jS (cZ1 jj CSlice.ok) (jS (bSu jj jj e5) (jS (bZ5 jj jj (by omega) (o := j - 1) (by omega)) (jS (aZt jj jj (by assumption)) (jS (bEt jj jj) (jn (jt jj (jp (jb (jr (jm jj (jm jj (jS (cZ1 jj CSlice.ok) (jS (bSu jj jj e5) (jS (iZn jj jj (by omega) (by omega)) (ja jj (jn ?_)))))))))))))))))))))
   refine ⟨⟨j - 1, by omega, by omega⟩, ?_, by dsimp only; omega⟩
   refine Sub.mk ?_ ?_ <;> repeat (first | exact trivial | refine jV jj ?_ | refine jy jj ?_ | refine jw jj (js0 jj) ?_ | refine jz ?_ | refine jw jj ⟨js0 jj, js0 jj⟩ ?_ | refine jx jj ⟨js0 jj, js0 jj⟩ ?_)
  ·have hjk : j = k := by omega
   subst hjk
   have hdz : ((dgt n (j - 1) : Nat) : Int) ≠ 48 := by
    unfold dgt
    have hq1 : 1 ≤ n / 10 ^ (j - 1) := (Nat.le_div_iff_mul_le hpos).2 (by omega)
    have hq2 : n / 10 ^ (j - 1) < 10 := by
     rw [Nat.div_lt_iff_lt_mul hpos]
     have : 10 ^ j = 10 * 10 ^ (j - 1) := by rw [← Nat.pow_succ']; congr 1; omega
     omega
    rw [Nat.mod_eq_of_lt hq2]; omega
   refine js (js (jr (jm jj (jm jj (jS (cZ1 jj CSlice.ok) (jS (bSu jj jj e5) (jS (bZ5 jj jj (by omega) (o := j - 1) (by omega)) (jS (aZt jj jj (by assumption)) (jS (bEf jj jj) (jn (jf jj (je (js (js ?_))))))))))))))
   have hps : PsLe ((dgts n 9).map byt) ((dgts n j).map byt) := by
    have := PsLe.take ((dgts n 9).map byt) j
    rwa [← List.map_take, kZm n hj2] at this
   refine WpD.sub (τ := ⟨[(1, .ptr 1 0), (4, .app 504 1 j)], [(1, [ex (.bool sb), mag [n]]), (504, (dgts n j).map byt), (754, [])]⟩) ?_ ?_
   ·refine Sub.mk ?_ ⟨.inl ⟨_, jj, PsLe.refl _⟩, .inl ⟨_, jj, hps⟩, .inr jj, trivial⟩
    repeat (first | exact trivial | refine jV jj ?_ | refine jw jj (js0 jj) ?_ | refine jw jj ⟨js0 jj, js0 jj⟩ ?_ | refine jx jj ⟨js0 jj, js0 jj⟩ ?_)
   have hlen : ((dgts n j).map byt).length = j * 1 := by simp [cZx]
   cases sb with
   | true =>
    have hL : (dgts n j ++ [45]).length = j + 1 := by simp [cZx]
    have hr2 : (dgts n j).map byt ++ [ex (.int .u8 45)] = (dgts n j ++ [45]).map byt := by rw [List.map_append]; rfl
    have C7 := hZX En (dgts n j ++ [45]) (j + 1) (by omega)
    rw [hL] at C7
    have hL2 : (dgts n j ++ [45]).reverse.length = j + 1 := by simp [cZx]
    repeat (first | apply js | apply jb)
    refine jr (jF jj jj (jl jj jj jj (jn (jt jj (jr (jm jj (jS (aZE (ps := [(_, _)]) ⟨jj, Part.c jj, trivial⟩ jj jj jj) (RG.SW (LT.plain jj (aZN 548 jj jj hlen jj (by omega) (by omega) jj jj jj jj jj hr2)) jj (ja jj (jn (js ?_)))))))))))
    refine WpD.sub (τ := ⟨[(4, .own 400 0 (j + 1) (j + 1))], [(400, (dgts n j ++ [45]).map byt)]⟩) ?_ ?_
    ·refine Sub.ren 400 548 rfl ?_ ?_ rfl
     ·repeat (first | exact trivial | refine ⟨.inl ⟨⟨_, rfl, PLe.refl _⟩, trivial, trivial⟩, ?_⟩ | refine ⟨.inr ⟨_, _, rfl, .inl rfl, ⟨Option.some_ne_none _, Option.some_ne_none _⟩⟩, ?_⟩ | refine ⟨.inl ⟨⟨_, rfl, rfl⟩, Option.some_ne_none _, ⟨(by decide), (by decide)⟩⟩, ?_⟩ | refine ⟨.inl ⟨⟨_, rfl, rfl⟩, ⟨Option.some_ne_none _, Option.some_ne_none _⟩, ⟨(by decide), (by decide), (by decide), (by decide)⟩⟩, ?_⟩ | refine ⟨.inl ⟨⟨_, rfl, rfl⟩, dZs (Option.some_ne_none _) (Option.some_ne_none _), cZ9 (by decide) (by decide) (by decide) (by decide)⟩, ?_⟩ | refine ⟨.inr ⟨_, _, rfl, .inr ⟨(by omega), rfl⟩, Option.some_ne_none _⟩, ?_⟩)
     ·repeat (first | exact trivial | refine ⟨.inr ⟨(by decide), .inr rfl⟩, ?_⟩ | refine ⟨.inl ⟨rfl, _, rfl, PsLe.refl _⟩, ?_⟩ | refine ⟨.inr ⟨(by decide), .inl ⟨(by decide), _, rfl, PsLe.refl _⟩⟩, ?_⟩)
    repeat (first | apply js | apply jb)
    refine jr (jm jj (jT (bZq (fun _ => 400) C7 ⟨⟨jj, Option.some_ne_none _⟩, trivial⟩ ⟨jj, trivial⟩ jj jj jj) (jn (js (jr (jm jj (jS (jZd Tryz.underlying116 Tryz.underlying5 Tryz.underlying9 jj jj hL2 (by omega)) (ja jj (jn (ji ?_))))))))))
    exact rtT rfl jj
   | false =>
    have hL : (dgts n j).length = j := cZx n j
    have C7 := hZX En (dgts n j) j (by omega)
    rw [hL] at C7
    have hL2 : (dgts n j).reverse.length = j := by simp [cZx]
    have hfin : (dgts n j ++ (if (false : Bool) = true then [45] else [])).reverse = (dgts n j).reverse := by simp
    rw [hfin]
    repeat (first | apply js | apply jb)
    refine jr (jF jj jj (jl jj jj jj (jn (jf jj (jp (js ?_))))))
    refine WpD.sub (τ := ⟨[(4, .own 400 0 j j)], [(400, (dgts n j).map byt)]⟩) ?_ ?_
    ·refine Sub.ren 400 504 rfl ?_ ?_ rfl
     ·repeat (first | exact trivial | refine ⟨.inl ⟨⟨_, rfl, PLe.refl _⟩, trivial, trivial⟩, ?_⟩ | refine ⟨.inr ⟨_, _, rfl, .inl rfl, ⟨Option.some_ne_none _, Option.some_ne_none _⟩⟩, ?_⟩ | refine ⟨.inl ⟨⟨_, rfl, rfl⟩, Option.some_ne_none _, ⟨(by decide), (by decide)⟩⟩, ?_⟩ | refine ⟨.inl ⟨⟨_, rfl, rfl⟩, ⟨Option.some_ne_none _, Option.some_ne_none _⟩, ⟨(by decide), (by decide), (by decide), (by decide)⟩⟩, ?_⟩ | refine ⟨.inl ⟨⟨_, rfl, rfl⟩, dZs (Option.some_ne_none _) (Option.some_ne_none _), cZ9 (by decide) (by decide) (by decide) (by decide)⟩, ?_⟩ | refine ⟨.inr ⟨_, _, rfl, .inr ⟨(by omega), rfl⟩, Option.some_ne_none _⟩, ?_⟩)
     ·repeat (first | exact trivial | refine ⟨.inr ⟨(by decide), .inr rfl⟩, ?_⟩ | refine ⟨.inl ⟨rfl, _, rfl, PsLe.refl _⟩, ?_⟩ | refine ⟨.inr ⟨(by decide), .inl ⟨(by decide), _, rfl, PsLe.refl _⟩⟩, ?_⟩)
    repeat (first | apply js | apply jb)
    refine jr (jm jj (jT (bZq (fun _ => 400) C7 ⟨⟨jj, Option.some_ne_none _⟩, trivial⟩ ⟨jj, trivial⟩ jj jj jj) (jn (js (jr (jm jj (jS (jZd Tryz.underlying116 Tryz.underlying5 Tryz.underlying9 jj jj hL2 (by omega)) (ja jj (jn (ji ?_))))))))))
    exact rtT rfl jj
 ·dsimp only [cond]
  refine js (js (jr (jm jj (jS (cZp jj CSlice.ok) (jS (bGt jj jj) (jn (jt jj (jp (jb (js (jr (jm jj (jT (bZq (fun _ => 9) C3 ⟨⟨jj, Option.some_ne_none _⟩, jj, trivial⟩ ⟨jj, trivial⟩ jj jj jj) (ja jj (jn (js ?_))))))))))))))))
  refine WpD.sub (τ := ⟨[(1, .ptr 1 0), (3, .one (mag [0])), (4, .one (ex (.slice none 0 0))), (5, .one (lb n))], [(1, [ex (.bool sb), mag [n]])]⟩) ?_ ?_
  ·refine Sub.pub 9 rfl rfl ?_ ?_ rfl
   ·repeat (first | exact trivial | refine ⟨.inl ⟨⟨_, rfl, PLe.refl _⟩, trivial⟩, ?_⟩ | refine ⟨.inl ⟨⟨_, rfl, rfl⟩, Option.some_ne_none _⟩, ?_⟩ | refine ⟨.inl ⟨⟨_, rfl, rfl⟩, ⟨Option.some_ne_none _, Option.some_ne_none _⟩⟩, ?_⟩ | refine ⟨.inr (.inl ⟨_, _, _, _, rfl, rfl, hp0⟩), ?_⟩ | refine ⟨.inr (.inr (.inl ⟨_, _, _, rfl, rfl, hp0⟩)), ?_⟩)
   ·repeat (first | exact trivial | refine jz ?_ | refine jy rfl ?_)
  repeat (first | apply js | apply jb)
  refine jr (jm jj (jS (aZa C4 ⟨jj, trivial⟩) (ja jj (jn (js (jr (jm jj (jn (jb ?_)))))))))
  refine WpD.loop (α := {i : Nat // i ≤ 9}) (fun i => ⟨[(1, .ptr 1 0), (3, .one (mag [])), (4, .app 504 1 i.1), (5, .one (lb (n / 10 ^ i.1))), (20, .one (ex (.int .i64 ((i.1 : Nat) : Int))))], [(1, [ex (.bool sb), mag [n]]), (504, (dgts n i.1).map byt), (754, [])]⟩) (fun i => 9 - i.1) ⟨0, by omega⟩ ?_ ?_
  ·dsimp only
   rw [e00]
   refine Sub.mk ?_ ?_ <;> repeat (first | exact trivial | refine jV jj ?_ | refine jy jj ?_ | refine jw jj (js0 jj) ?_ | refine jz ?_ | refine jw jj ⟨js0 jj, js0 jj⟩ ?_ | refine jx jj ⟨js0 jj, js0 jj⟩ ?_)
  rintro ⟨i, hi⟩
  dsimp only at hi ⊢
  by_cases hi9 : i < 9
  ·have e1 : ((n / 10 ^ i : Nat) : Int).tmod 10 = ((n / 10 ^ i % 10 : Nat) : Int) := (Int.ofNat_tmod _ 10).symm
   have hlt : n / 10 ^ i % 10 < 10 := Nat.mod_lt _ (by omega)
   have e2 : IntKind.u32.wrap (48 + ((n / 10 ^ i % 10 : Nat) : Int)) = ((dgt n i : Nat) : Int) := by rw [IntKind.wrap_u32]; unfold dgt; omega
   have e3 : IntKind.u8.wrap ((dgt n i : Nat) : Int) = ((dgt n i : Nat) : Int) := by unfold dgt; rw [IntKind.wrap_u8]; omega
   have hq : n / 10 ^ i / 10 = n / 10 ^ (i + 1) := by rw [Nat.div_div_eq_div_mul, Nat.pow_succ]
   have hle : n / 10 ^ (i + 1) ≤ n := Nat.div_le_self _ _
   have e4 : IntKind.u32.wrap (((n / 10 ^ i : Nat) : Int).tdiv 10) = ((n / 10 ^ (i + 1) : Nat) : Int) := by
    rw [show ((n / 10 ^ i : Nat) : Int).tdiv 10 = ((n / 10 ^ i / 10 : Nat) : Int) from (Int.ofNat_tdiv _ 10).symm, hq, IntKind.wrap_u32]
    have h0 := Int.natCast_nonneg (n / 10 ^ (i + 1))
    have h1 : ((n / 10 ^ (i + 1) : Nat) : Int) ≤ (n : Int) := by exact_mod_cast hle
    generalize ((n / 10 ^ (i + 1) : Nat) : Int) = q at h0 h1 ⊢
    omega
   have e6 := wS i (by omega)
   have hlen : ((dgts n i).map byt).length = i * 1 := by simp [cZx]
   have hr : (dgts n i).map byt ++ [ex (.int .u8 ((dgt n i : Nat) : Int))] = (dgts n (i + 1)).map byt := by rw [kZn, List.map_append]; rfl
   refine js (jr (jS (bLt jj jj) (jn (js (jt jj (jp (js (jb (js (jr (jm jj (jm jj (jS (bRe jj jj e1) (jS (bAd jj jj e2) (jS (bCv jj e3) (jS (aZE (ps := [(_, _)]) ⟨jj, Part.c jj, trivial⟩ jj jj jj) (RG.SW (LT.plain jj (aZN 528 jj jj hlen jj (by omega) (by omega) jj jj jj jj jj hr)) jj (ja jj (jn (jr (jm jj (jS (bQu jj jj e4) (ja jj (jn (jr (jS (bAd jj jj e6) (jm jj (jn ?_))))))))))))))))))))))))))))
   refine ⟨⟨i + 1, by omega⟩, ?_, by dsimp only; omega⟩
   refine Sub.ren 504 528 rfl ?_ ?_ rfl
   ·repeat (first | exact trivial | refine ⟨.inl ⟨⟨_, rfl, PLe.refl _⟩, trivial, trivial⟩, ?_⟩ | refine ⟨.inr ⟨_, _, rfl, .inl rfl, ⟨Option.some_ne_none _, Option.some_ne_none _⟩⟩, ?_⟩ | refine ⟨.inl ⟨⟨_, rfl, rfl⟩, Option.some_ne_none _, ⟨(by decide), (by decide)⟩⟩, ?_⟩ | refine ⟨.inl ⟨⟨_, rfl, rfl⟩, ⟨Option.some_ne_none _, Option.some_ne_none _⟩, ⟨(by decide), (by decide), (by decide), (by decide)⟩⟩, ?_⟩ | refine ⟨.inl ⟨⟨_, rfl, rfl⟩, dZs (Option.some_ne_none _) (Option.some_ne_none _), cZ9 (by decide) (by decide) (by decide) (by decide)⟩, ?_⟩ | refine ⟨.inr ⟨_, _, rfl, .inr ⟨(by omega), rfl⟩, Option.some_ne_none _⟩, ?_⟩)
   ·repeat (first | exact trivial | refine ⟨.inr ⟨(by decide), .inr rfl⟩, ?_⟩ | refine ⟨.inl ⟨rfl, _, rfl, PsLe.refl _⟩, ?_⟩ | refine ⟨.inr ⟨(by decide), .inl ⟨(by decide), _, rfl, PsLe.refl _⟩⟩, ?_⟩)
  ·have hi9 : i = 9 := by omega
   subst hi9
   refine js (jr (jS (bLf jj jj) (jn (js (jf jj (je ?_))))))
   refine ⟨false, ?_, by decide⟩
   dsimp only [cond]
   refine Sub.mk ?_ ?_ <;> repeat (first | exact trivial | refine jV jj ?_ | refine jy jj ?_ | refine jw jj (js0 jj) ?_ | refine jz ?_ | refine jw jj ⟨js0 jj, js0 jj⟩ ?_ | refine jx jj ⟨js0 jj, js0 jj⟩ ?_)
end
end Go.Proofs.YtdieokoenhncfaaGreatDoor
/- The mass of a symbol; the sanity check of chapter 32. (With LT.skipU.) -/
namespace Go.Proofs.YtdieokoenhncfaaGreatDoor
open Go.RowKit Limb Num
instance cbody23 : CBody Tryz.prog 23 := ⟨⟨_, Tryz.func23, rfl, by rfl⟩⟩
instance cbody9 : CBody Tryz.prog 9 := ⟨⟨_, Tryz.func9, rfl, by rfl⟩⟩
def mpr (p : Int) (sd : Int → Nat) (ss : Int → Int) (R : Rat) : Nat → Rat
 | 0 => R
 | k + 1 => if 0 < sd ((k : Int) - 1) then mpr p sd ss R k * dia p (sd ((k : Int) - 1)) (ss ((k : Int) - 1)) else mpr p sd ss R k
theorem eZL {p : Int} {sd : Int → Nat} {ss : Int → Int} {R : Rat} (h1 : 2 ≤ p) (h2 : p ≤ 9973) (hd : ∀ e, sd e ≤ 9) (hs : ∀ e, -1 ≤ ss e ∧ ss e ≤ 1) (hR : Sz 1000 R) : ∀ k, Sz (k * 200 + 1000) (mpr p sd ss R k)
 | 0 => hR.mono (by omega)
 | k + 1 => by
  rw [mpr]
  split
  ·exact (bZP (eZL h1 h2 hd hs hR k) (iZU h1 h2 (hs _).1 (hs _).2 (hd _))).mono (by omega)
  ·exact (eZL h1 h2 hd hs hR k).mono (by omega)
end Go.Proofs.YtdieokoenhncfaaGreatDoor
/- Symbols at odd primes: what is valid; the mass. (With LT.skipU.) -/
namespace Go.Proofs.YtdieokoenhncfaaGreatDoor
open Go.RowKit Limb Num
instance cbody108 : CBody Tryz.prog 108 := ⟨⟨_, Tryz.func108, rfl, by rfl⟩⟩
instance cbody60 : CBody Tryz.prog 60 := ⟨⟨_, Tryz.func60, rfl, by rfl⟩⟩
instance cbody107 : CBody Tryz.prog 107 := ⟨⟨_, Tryz.func107, rfl, by rfl⟩⟩
instance cbody54 : CBody Tryz.prog 54 := ⟨⟨_, Tryz.func54, rfl, by rfl⟩⟩
def dsm (f : Nat → Co) : Nat → Int
 | 0 => 0
 | i + 1 => dsm f i + (f i).d
structure OddL (f : Nat → Co) (n : Nat) : Prop extends OkL f n where
 e6 : ∀ i, i < n → (f i).e ≤ 60
 sg : ∀ i, i < n → (f i).s = 1 ∨ (f i).s = -1
 od : ∀ i, i < n → (f i).o = false
 oy : ∀ i, i < n → (f i).y = 0
 sm : dsm f n ≤ 8
theorem mZL {f : Nat → Co} {n : Nat} (H : OddL f n) : ∀ {i : Nat}, i ≤ n → (i : Int) ≤ dsm f i
 | 0, _ => by simp [dsm]
 | i + 1, h => by
  have := mZL H (i := i) (by omega)
  have := H.d0 i (by omega)
  rw [dsm]
  omega
theorem mZJ {f : Nat → Co} {n : Nat} (H : OddL f n) : ∀ (j : Nat) {i : Nat}, i + j = n → dsm f i ≤ dsm f n
 | 0, i, h => by rw [show i = n by omega]; exact Int.le_refl _
 | j + 1, i, h => by
  have := mZJ H j (i := i + 1) (by omega)
  have := H.d0 i (by omega)
  have h2 : dsm f (i + 1) = dsm f i + (f i).d := rfl
  omega
theorem lZ5 {f : Nat → Co} {n i : Nat} (H : OddL f n) (h : i < n) : 0 ≤ dsm f i ∧ dsm f i + (f i).d ≤ 8 := by
 have h1 := mZL H (i := i) (by omega)
 have h2 := mZJ H (n - (i + 1)) (i := i + 1) (by omega)
 have h3 := H.sm
 have h4 : dsm f (i + 1) = dsm f i + (f i).d := rfl
 omega
section
variable (En : Ev)
end
end Go.Proofs.YtdieokoenhncfaaGreatDoor
/- The scene's symbols for odd primes. (With LT.skipU.) -/
namespace Go.Proofs.YtdieokoenhncfaaGreatDoor
open Go.RowKit Limb Num
instance crow_b5 : CRow Tryz.prog 105 5 := ⟨⟨_, Tryz.underlying105, rfl, by kernel_rfl⟩⟩
instance carr_b5 : CArr Tryz.prog 105 5 5 1 := ⟨Tryz.underlying105, by kernel_rfl⟩
theorem zero_b5 : bZO Tryz.prog 105 [.int .u8 0, .int .u8 0, .int .u8 0, .int .u8 0, .int .u8 0] := ⟨by kernel_rfl, by simp [Value.oneCell']⟩
instance czero_b5 : CZero Tryz.prog 105 [.int .u8 0, .int .u8 0, .int .u8 0, .int .u8 0, .int .u8 0] := ⟨zero_b5⟩
instance cslice_b5 : CSlice Tryz.prog 25 105 := ⟨Tryz.underlying25⟩
instance celem_b5 : CElem Tryz.prog 25 105 5 := ⟨Tryz.underlying25, by kernel_rfl⟩
instance cone_b5s : COne Tryz.prog 25 := ⟨⟨_, Tryz.underlying25, rfl, by kernel_rfl⟩⟩
instance crow_sym : CRow Tryz.prog 27 2 := ⟨⟨_, Tryz.underlying27, rfl, by kernel_rfl⟩⟩
instance cfield_sym0 : CField Tryz.prog 27 0 0 := ⟨⟨_, _, Tryz.underlying27, rfl, rfl, by kernel_rfl⟩⟩
instance cfield_sym1 : CField Tryz.prog 27 1 1 := ⟨⟨_, _, Tryz.underlying27, rfl, rfl, by kernel_rfl⟩⟩
instance cbody81 : CBody Tryz.prog 81 := ⟨⟨_, Tryz.func81, rfl, by rfl⟩⟩
instance cbody43 : CBody Tryz.prog 43 := ⟨⟨_, Tryz.func43, rfl, by rfl⟩⟩
instance cbody41 : CBody Tryz.prog 41 := ⟨⟨_, Tryz.func41, rfl, by rfl⟩⟩
section
variable {P : Program} {En : Ev} {n : Nat} {sl : Sl} {bx : Bx} {dst : Option Tmp} {ty : TypeId} {pos : String} {after : Array Edge} {guard : Option (Nat × Bool)}
theorem hZl {x y : Operand} {k : IntKind} {a b : Int} {T : TypeId} (hx : osd sl x = some (.one (ex (.int k a)))) (hy : osd sl y = some (.one (ex (.int k b)))) {m : Int} (hm : (if b < a then b else a) = m) : RT P En n ⟨dst, .call ⟨.builtin .min, #[x, y], #[T, T]⟩, ty, pos, after, guard⟩ sl bx ⟨.one (ex (.int k m)), [], []⟩ :=
 RT.pure fun ρ h β bx' H => by
  subst hm
  have h1 : ρ x = .int k a := (H x (by simp [Op.operands, Call.operands]) _ hx).1
  have h2 : ρ y = .int k b := (H y (by simp [Op.operands, Call.operands]) _ hy).1
  refine ⟨_, fun w _ => ?_, rfl, trivial⟩
  simp [execOp, resolve, invoke, builtin, Builtin.min_, Builtin.min2, h1, h2]
end
structure By where
 b : Nat → Int
 lo : ∀ j, 0 ≤ b j
 hi : ∀ j, b j ≤ 255
def byc (x : By) : List Pd := [ex (.int .u8 (x.b 0)), ex (.int .u8 (x.b 1)), ex (.int .u8 (x.b 2)), ex (.int .u8 (x.b 3)), ex (.int .u8 (x.b 4))]
def bys (x : Nat → By) : Nat → List Pd := fun i => byc (x i)
theorem gZT (x : Nat → By) (i : Nat) : (bys x i).length = 5 := rfl
def mn3 (r : Int) : Int := if r < 3 then r else 3
section
variable (En : Ev)
theorem scons (x : By) (e r : Int) (hr : 1 ≤ r) (hr2 : r ≤ 8) : Fn Tryz.prog En 81 [aggP (byc x), ex (.int .i64 e), ex (.int .i64 r), ex (.bool false)] (aggP (coc ⟨e, 1 + x.b 1 % mn3 r, 1 - 2 * (x.b 2 % 2), false, 0⟩)) := by
 have a1 := x.lo 1
 have a2 := x.hi 1
 have a3 := x.lo 2
 have a4 := x.hi 2
 have hm1 : 1 ≤ mn3 r := by unfold mn3; split <;> omega
 have hm2 : mn3 r ≤ 3 := by unfold mn3; split <;> omega
 have hmn : (if r < 3 then r else 3) = mn3 r := rfl
 generalize mn3 r = q at *
 have hq0 : q ≠ 0 := by omega
 have r1 := Int.emod_nonneg (x.b 1) hq0
 have r2 := Int.emod_lt_of_pos (x.b 1) (show 0 < q by omega)
 have w1 : IntKind.i64.wrap (x.b 1) = x.b 1 := w64 (by omega) (by omega)
 have w2 : (x.b 1).tmod q = x.b 1 % q := Int.tmod_eq_emod_of_nonneg a1
 have w3 : IntKind.i64.wrap (1 + x.b 1 % q) = 1 + x.b 1 % q := w64 (by omega) (by omega)
 have w4 : (x.b 2).tmod 2 = x.b 2 % 2 := Int.tmod_eq_emod_of_nonneg a3
 have w5 : IntKind.i64.wrap (x.b 2 % 2) = x.b 2 % 2 := w64 (by omega) (by omega)
 have w6 : IntKind.i64.wrap (2 * (x.b 2 % 2)) = 2 * (x.b 2 % 2) := w64 (by omega) (by omega)
 have w7 : IntKind.i64.wrap (1 - 2 * (x.b 2 % 2)) = 1 - 2 * (x.b 2 % 2) := w64 (by omega) (by omega)
 unfold byc coc
 dsimp only
 refine aZb Tryz.func81 rfl Tryz.ntmps81 rfl ?_
 intro w0 h0
 refine js (jr (jB jj jj jj (jA jj jj jj (jn (js (jr (jm jj (jS (aZ1 (i := 1) jj jj (by decide) jj) (jl jj jj jj (jS (bCv jj w1) (jm jj (jS (hZl jj jj hmn) (jS (bRe jj jj w2) (jS (bAd jj jj w3) (jS (aZ1 (i := 2) jj jj (by decide) jj) (jl jj jj jj (jS (bRe jj jj w4) (jS (bCv jj w5) (jS (bMu jj jj w6) (jS (bSu jj jj w7) (jS (aZl (ps := [(_, _), (_, _), (_, _)]) ⟨jj, Part.c jj, jj, Part.c jj, jj, Part.c jj, trivial⟩ jj) (jA jj jj jj (jP jj jj jj jj (jn (js (js (jr (jm jj (jn (jf jj (jp (js (jr (jL jj jj jj (jP jj jj jj jj (jn (ji ?_)))))))))))))))))))))))))))))))))))))
 exact rtC rfl jj jj
end
def sn (x : Nat → By) : Nat → Int
 | 0 => 0
 | i + 1 => sn x i + (1 + (x i).b 1 % mn3 (8 - sn x i))
def se (x : Nat → By) : Nat → Int
 | 0 => -1
 | i + 1 => se x i + (1 + (x i).b 0 % 4 % 3)
def sf (x : Nat → By) (i : Nat) : Co := ⟨se x (i + 1), 1 + (x i).b 1 % mn3 (8 - sn x i), 1 - 2 * ((x i).b 2 % 2), false, 0⟩
theorem kZj (x : By) {r : Int} (h : 1 ≤ r) : 0 ≤ x.b 1 % mn3 r ∧ 1 + x.b 1 % mn3 r ≤ 3 ∧ 1 + x.b 1 % mn3 r ≤ r := by
 have hm : 1 ≤ mn3 r ∧ mn3 r ≤ 3 ∧ mn3 r ≤ r := by unfold mn3; split <;> omega
 have r1 := Int.emod_nonneg (x.b 1) (show mn3 r ≠ 0 by omega)
 have r2 := Int.emod_lt_of_pos (x.b 1) (show 0 < mn3 r by omega)
 omega
theorem iZV (x : Nat → By) : ∀ {i : Nat}, (∀ j, j < i → sn x j < 8) → (i : Int) ≤ sn x i ∧ sn x i ≤ 8
 | 0, _ => by simp [sn]
 | i + 1, h => by
  have ih := iZV x (i := i) fun j hj => h j (by omega)
  have h1 := h i (by omega)
  have h2 := kZj (x i) (r := 8 - sn x i) (by omega)
  rw [sn]
  omega
theorem iZl (x : Nat → By) : ∀ i : Nat, (i : Int) - 1 ≤ se x i ∧ se x i ≤ 3 * (i : Int) - 1
 | 0 => by simp [se]
 | i + 1 => by
  have ih := iZl x i
  rw [se]
  omega
def cntF (x : Nat → By) (m : Nat) : Nat → Nat → Nat
 | 0, i => i
 | u + 1, i => if i < m ∧ sn x i < 8 then cntF x m u (i + 1) else i
theorem dZ4 {x : Nat → By} {m i : Nat} (hs : ¬ (i < m ∧ sn x i < 8)) : ∀ {u k : Nat}, k ≤ i → i ≤ k + u → (∀ j, j < i → j < m ∧ sn x j < 8) → cntF x m u k = i
 | 0, k, h1, h2, _ => by rw [cntF]; omega
 | u + 1, k, h1, h2, h => by
  rw [cntF]
  by_cases hk : k = i
  ·rw [hk, if_neg hs]
  ·rw [if_pos (h k (by omega))]
   exact dZ4 hs (by omega) (by omega) h
def scN (x : Nat → By) (m : Nat) : Nat := if m = 0 then 1 else cntF x m m 0
def scF (x : Nat → By) (m : Nat) : Nat → Co := if m = 0 then (fun _ => ⟨0, 1, 1, false, 0⟩) else sf x
theorem cnt_ok (x : Nat → By) (m : Nat) : ∃ i, i ≤ m ∧ (∀ j, j < i → j < m ∧ sn x j < 8) ∧ ¬ (i < m ∧ sn x i < 8) := by
 have : ∀ u k, k + u = m → (∀ j, j < k → j < m ∧ sn x j < 8) → ∃ i, i ≤ m ∧ (∀ j, j < i → j < m ∧ sn x j < 8) ∧ ¬ (i < m ∧ sn x i < 8) := by
  intro u
  induction u with
  | zero => exact fun k hk h => ⟨k, by omega, h, by omega⟩
  | succ u ih =>
   intro k hk h
   by_cases hc : k < m ∧ sn x k < 8
   ·refine ih (k + 1) (by omega) fun j hj => ?_
    rcases Nat.lt_or_ge j k with h' | h'
    ·exact h j h'
    ·rw [show j = k by omega]; exact hc
   ·exact ⟨k, by omega, h, hc⟩
 exact this m 0 (by omega) fun j hj => by omega
theorem mZI (x : Nat → By) : ∀ i, dsm (sf x) i = sn x i
 | 0 => rfl
 | i + 1 => by rw [dsm, mZI x i]; rfl
theorem kZQ (x : Nat → By) (m : Nat) : OddL (scF x m) (scN x m) := by
 by_cases hm : m = 0
 ·unfold scF scN
  rw [if_pos hm, if_pos hm]
  exact ⟨⟨by omega, by omega, fun _ _ => by show (0 : Int) ≤ 0; omega, fun _ _ => by show (0 : Int) ≤ 100; omega, fun _ _ => by show (1 : Int) ≤ 1; omega, fun _ _ => by show (1 : Int) ≤ 8; omega, fun i j h1 h2 => by omega⟩,
   fun _ _ => by show (0 : Int) ≤ 60; omega, fun _ _ => .inl rfl, fun _ _ => rfl, fun _ _ => rfl, by show (0 : Int) + 1 ≤ 8; omega⟩
 ·obtain ⟨i, h1, h2, h3⟩ := cnt_ok x m
  have hc : scN x m = i := by unfold scN; rw [if_neg hm]; exact dZ4 h3 (by omega) (by omega) h2
  rw [hc]
  unfold scF
  rw [if_neg hm]
  have hi1 : 1 ≤ i := by
   rcases Nat.lt_or_ge i 1 with h | h
   ·rw [show i = 0 by omega] at h3
    exact absurd ⟨by omega, by show (0 : Int) < 8; omega⟩ h3
   ·exact h
  have hlt : ∀ j, j < i → sn x j < 8 := fun j hj => (h2 j hj).2
  have hi8 : i ≤ 8 := by
   have a1 := iZV x (i := i - 1) fun j hj => hlt j (by omega)
   have a2 := hlt (i - 1) (by omega)
   omega
  have hup : ∀ u a, (sf x a).e < (sf x (a + 1 + u)).e := by
   intro u
   induction u with
   | zero =>
    intro a
    show se x (a + 1) < se x (a + 1 + 1)
    rw [se.eq_2 x (a + 1)]
    omega
   | succ u ih =>
    intro a
    have := ih a
    have h5 : se x (a + 1 + u + 1 + 1) = se x (a + 1 + u + 1) + (1 + (x (a + 1 + u + 1)).b 0 % 4 % 3) := rfl
    show se x (a + 1) < se x (a + 1 + u + 1 + 1)
    have h6 : se x (a + 1) < se x (a + 1 + u + 1) := this
    omega
  refine ⟨⟨hi1, hi8, fun j hj => ?_, fun j hj => ?_, fun j hj => ?_, fun j hj => ?_, fun a b hab hb => ?_⟩, fun j hj => ?_, fun j hj => ?_, fun _ _ => rfl, fun _ _ => rfl, ?_⟩
  ·show 0 ≤ se x (j + 1)
   have := (iZl x (j + 1)).1; omega
  ·show se x (j + 1) ≤ 100
   have := (iZl x (j + 1)).2; omega
  ·show 1 ≤ 1 + (x j).b 1 % mn3 (8 - sn x j)
   have := kZj (x j) (r := 8 - sn x j) (by have := hlt j hj; omega); omega
  ·show 1 + (x j).b 1 % mn3 (8 - sn x j) ≤ 8
   have := kZj (x j) (r := 8 - sn x j) (by have := hlt j hj; omega); omega
  ·have := hup (b - a - 1) a
   rwa [show a + 1 + (b - a - 1) = b by omega] at this
  ·show se x (j + 1) ≤ 60
   have := (iZl x (j + 1)).2; omega
  ·show 1 - 2 * ((x j).b 2 % 2) = 1 ∨ 1 - 2 * ((x j).b 2 % 2) = -1
   omega
  ·rw [mZI]
   exact (iZV x hlt).2
set_option maxHeartbeats 1000000 in
theorem slist (En : Ev) (pk : Int) (x : Nat → By) (m : Nat) (hm : m ≤ 20) : Fn Tryz.prog En 43 [aggP [ex (.int .u8 pk), slc 5 (rows (bys x) m) m], ex (.int .i64 8), ex (.bool false)] (slc 5 (rows (ccs (scF x m)) (scN x m)) (scN x m)) := by
 refine aZb Tryz.func43 rfl Tryz.ntmps43 rfl ?_
 intro w0 h0
 refine js (jr (jB jj jj jj (ja jj (jn (js (jr (ja jj (jn (js (jr (ja jj (ja jj (jn (js (js (jr (jF jj jj (jl jj jj jj (jE jj (jm jj (jn (jb ?_))))))))))))))))))))))
 refine WpD.loop (α := {i : Nat // i ≤ m ∧ ∀ j, j < i → j < m ∧ sn x j < 8}) (fun i => ⟨[(1, .one (ex (.int .i64 8))), (2, .one (ex (.bool false))), (7, .app 507 5 i.1), (8, .one (ex (.int .i64 (se x i.1)))), (9, .one (ex (.int .i64 (sn x i.1)))), (14, .one (slc 5 (rows (bys x) m) m)), (15, .one (ex (.int .i64 (m : Int)))), (16, .one (ex (.int .i64 (i.1 : Int))))], [(507, rows (ccs (sf x)) i.1), (757, [])]⟩) (fun i => m - i.1) ⟨0, Nat.zero_le _, fun j hj => by omega⟩ ?_ ?_
 ·refine Sub.mk ?_ ?_ <;> repeat (first | exact trivial | refine jV jj ?_ | refine jy jj ?_ | refine jw jj (js0 jj) ?_ | refine jz ?_ | refine jw jj ⟨js0 jj, js0 jj⟩ ?_ | refine jx jj ⟨js0 jj, js0 jj⟩ ?_)
 rintro ⟨i, hi, hc⟩
 dsimp only at hi hc ⊢
 have hb := iZV x (i := i) fun j hj => (hc j hj).2
 have hse := iZl x i
 have w9 := wS i (by omega)
 have hlen := aZ3 (aZp (sf x)) i
 by_cases hlt : i < m
 ·have hq : ((rows (bys x) m).drop (i * 5)).take 5 = byc (x i) := aZo (gZT x) hlt
  by_cases h8 : sn x i < 8
  ·have a1 := (x i).lo 0
   have a2 := (x i).hi 0
   have hd := kZj (x i) (r := 8 - sn x i) (by omega)
   have w1 : IntKind.i64.wrap ((x i).b 0) = (x i).b 0 := w64 (by omega) (by omega)
   have w2 : ((x i).b 0).tmod 4 = (x i).b 0 % 4 := Int.tmod_eq_emod_of_nonneg a1
   have w3 : ((x i).b 0 % 4).tmod 3 = (x i).b 0 % 4 % 3 := Int.tmod_eq_emod_of_nonneg (by omega)
   have w4 : IntKind.i64.wrap (1 + (x i).b 0 % 4 % 3) = 1 + (x i).b 0 % 4 % 3 := w64 (by omega) (by omega)
   have w5 : IntKind.i64.wrap (se x i + (1 + (x i).b 0 % 4 % 3)) = se x (i + 1) := w64 (by omega) (by omega)
   have w6 : IntKind.i64.wrap (8 - sn x i) = 8 - sn x i := w64 (by omega) (by omega)
   have w7 : IntKind.i64.wrap (sn x i + (1 + (x i).b 1 % mn3 (8 - sn x i))) = sn x (i + 1) := w64 (by omega) (by omega)
   have C1 := scons En (x i) (se x (i + 1)) (8 - sn x i) (by omega) (by omega)
   have hr : rows (ccs (sf x)) i ++ coc (sf x i) = rows (ccs (sf x)) (i + 1) := (aZ9 (ccs (sf x)) i).symm
   have hc' : ∀ j, j < i + 1 → j < m ∧ sn x j < 8 := fun j hj => by
    rcases Nat.lt_or_ge j i with h | h
    ·exact hc j h
    ·rw [show j = i by omega]; exact ⟨hlt, h8⟩
   refine js (jr (jS (bLt jj jj) (jn (js (jt jj (jp (js (jb (js (jr (jS (aZc jj jj hlt hq) (jS (aZg jj jj jj) (jA jj jj jj (jP jj jj jj jj (jn (js (js (jr (jm jj (jm jj (jS (bHf jj jj) (jn (jf jj (jp (js (jr (jm jj (jS (aZ1 (i := 0) jj jj (by decide) jj) (jl jj jj jj (jS (bCv jj w1) (jS (bRe jj jj w2) (jS (bRe jj jj w3) (jS (bAd jj jj w4) (jS (bAd jj jj w5) (ja jj (jn (js (jr (jL jj jj jj (jm jj (jm jj (jm jj (jS (bSu jj jj w6) (jm jj (jS (aZa C1 ⟨jj, jj, jj, jj, trivial⟩) (jA jj jj jj (jP jj jj jj jj (jn ?_))))))))))))))))))))))))))))))))))))))))))))))))
   refine js (jr (jm jj (jF jj jj (jl jj jj jj (jS (bAd jj jj w7) (ja jj (jn (jr (jm jj (jL jj jj jj (jS (aZE (ps := [(_, _)]) ⟨jj, Part.c jj, trivial⟩ jj jj jj) (RG.SW (LT.plain jj (aZN 545 jj jj hlen jj (by omega) (by omega) jj jj jj jj jj hr)) jj (ja jj (jn (jr (jS (bAd jj jj w9) (jm jj (jn ?_))))))))))))))))))
   refine ⟨⟨i + 1, by omega, hc'⟩, ?_, by dsimp only; omega⟩
   refine Sub.ren 507 545 rfl ?_ ?_ rfl
   ·repeat (first | exact trivial | refine ⟨.inl ⟨⟨_, rfl, PLe.refl _⟩, trivial, trivial⟩, ?_⟩ | refine ⟨.inr ⟨_, _, rfl, .inl rfl, ⟨Option.some_ne_none _, Option.some_ne_none _⟩⟩, ?_⟩ | refine ⟨.inl ⟨⟨_, rfl, rfl⟩, Option.some_ne_none _, ⟨(by decide), (by decide)⟩⟩, ?_⟩ | refine ⟨.inl ⟨⟨_, rfl, rfl⟩, ⟨Option.some_ne_none _, Option.some_ne_none _⟩, ⟨(by decide), (by decide), (by decide), (by decide)⟩⟩, ?_⟩ | refine ⟨.inl ⟨⟨_, rfl, rfl⟩, dZs (Option.some_ne_none _) (Option.some_ne_none _), cZ9 (by decide) (by decide) (by decide) (by decide)⟩, ?_⟩ | refine ⟨.inr ⟨_, _, rfl, .inr ⟨(by omega), rfl⟩, Option.some_ne_none _⟩, ?_⟩)
   ·repeat (first | exact trivial | refine ⟨.inr ⟨(by decide), .inr rfl⟩, ?_⟩ | refine ⟨.inl ⟨rfl, _, rfl, PsLe.refl _⟩, ?_⟩ | refine ⟨.inr ⟨(by decide), .inl ⟨(by decide), _, rfl, PsLe.refl _⟩⟩, ?_⟩)
  ·have hn := dZ4 (x := x) (m := m) (i := i) (fun h => h8 h.2) (u := m) (k := 0) (by omega) (by omega) hc
   have hm0 : m ≠ 0 := by omega
   have e1 : scN x m = i := by unfold scN; rw [if_neg hm0]; exact hn
   have e2 : scF x m = sf x := by unfold scF; rw [if_neg hm0]
   rw [e1, e2]
   refine js (jr (jS (bLt jj jj) (jn (js (jt jj (jp (js (jb (js (jr (jS (aZc jj jj hlt hq) (jS (aZg jj jj jj) (jA jj jj jj (jP jj jj jj jj (jn (js (js (jr (jm jj (jm jj (jS (bHt jj jj) (jn (jt jj (je (js (js (jr (jm jj (jS (bEf jj jj) (jn (jf jj (jp (js ?_)))))))))))))))))))))))))))))))))
   refine WpD.sub (τ := ⟨[(7, .one (slc 5 (rows (ccs (sf x)) i) i))], []⟩) ?_ ?_
   ·refine Sub.pub 507 rfl rfl ⟨.inr (.inr (.inl ⟨_, _, _, rfl, rfl, hlen, PLe.refl _⟩)), trivial⟩ trivial rfl
   repeat (first | apply js | apply jb)
   refine jr (jm jj (ja jj (jn (ji ?_))))
   exact rtT rfl jj
 ·have him : i = m := by omega
  have hn := dZ4 (x := x) (m := m) (i := i) (fun h => hlt h.1) (u := m) (k := 0) (by omega) (by omega) hc
  by_cases hm0 : m = 0
  ·have hi0 : i = 0 := by omega
   subst hi0
   have e1 : scN x m = 1 := by unfold scN; rw [if_pos hm0]
   have e2 : scF x m = fun _ => ⟨0, 1, 1, false, 0⟩ := by unfold scF; rw [if_pos hm0]
   rw [e1, e2]
   have C1 := scons En ⟨fun _ => 0, fun _ => by omega, fun _ => by omega⟩ 0 1 (by omega) (by omega)
   have hsn : sn x 0 = 0 := rfl
   have hlen0 : (rows (ccs (sf x)) 0).length = 0 * 5 := hlen
   have hr : rows (ccs (sf x)) 0 ++ coc ⟨0, 1 + 0 % mn3 1, 1 - 2 * (0 % 2), false, 0⟩ = rows (ccs (fun _ => ⟨0, 1, 1, false, 0⟩)) 1 := rfl
   refine js (jr (jS (bLf jj jj) (jn (js (jf jj (je (js (js (jr (jm jj (jS (bEt jj jj) (jn (jt jj (jr (jm jj (jS (cZM (ps := []) trivial jj) (jm jj (jS (aZa C1 ⟨jj, jj, jj, jj, trivial⟩) (jS (aZE (ps := [(_, _)]) ⟨jj, Part.c jj, trivial⟩ jj jj jj) (RG.SW (LT.plain jj (aZN 554 jj jj hlen0 jj (by omega) (by omega) jj jj jj jj jj hr)) jj (ja jj (jn (js ?_)))))))))))))))))))))))
   refine WpD.sub (τ := ⟨[(7, .one (slc 5 (rows (ccs (fun _ => ⟨0, 1, 1, false, 0⟩)) 1) 1))], []⟩) ?_ ?_
   ·refine Sub.pub 554 rfl rfl ⟨.inr (.inr (.inl ⟨_, _, _, rfl, rfl, rfl, PLe.refl _⟩)), trivial⟩ trivial rfl
   repeat (first | apply js | apply jb)
   refine jr (jm jj (ja jj (jn (ji ?_))))
   exact rtT rfl jj
  ·have e1 : scN x m = i := by unfold scN; rw [if_neg hm0]; exact hn
   have e2 : scF x m = sf x := by unfold scF; rw [if_neg hm0]
   rw [e1, e2]
   have hpos : sn x i ≠ 0 := by omega
   refine js (jr (jS (bLf jj jj) (jn (js (jf jj (je (js (js (jr (jm jj (jS (bEf jj jj) (jn (jf jj (jp (js ?_)))))))))))))))
   refine WpD.sub (τ := ⟨[(7, .one (slc 5 (rows (ccs (sf x)) i) i))], []⟩) ?_ ?_
   ·refine Sub.pub 507 rfl rfl ⟨.inr (.inr (.inl ⟨_, _, _, rfl, rfl, hlen, PLe.refl _⟩)), trivial⟩ trivial rfl
   repeat (first | apply js | apply jb)
   refine jr (jm jj (ja jj (jn (ji ?_))))
   exact rtT rfl jj
theorem slocal (En : Ev) (pk : Int) (x : Nat → By) (m : Nat) (hm : m ≤ 20) (k1 : 0 ≤ pk) (k2 : pk ≤ 255) : Fn Tryz.prog En 41 [aggP [ex (.int .u8 pk), slc 5 (rows (bys x) m) m], ex (.int .i64 8)] (locP (od8 (pk % 8).toNat : Int) (scF x m) (scN x m)) := by
 have C1 := fodd En pk k1 k2
 have C2 := slist En pk x m hm
 unfold locP
 refine aZb Tryz.func41 rfl Tryz.ntmps41 rfl ?_
 intro w0 h0
 refine js (jr (jB jj jj jj (jA jj jj jj (jn (js (jr (jF jj jj (jl jj jj jj (jS (aZa C1 ⟨jj, trivial⟩) (jL jj jj jj (jm jj (jS (aZa C2 ⟨jj, jj, jj, trivial⟩) (jS (aZl (ps := [(_, _), (_, _)]) ⟨jj, Part.c jj, jj, Part.c jj, trivial⟩ jj) (jP jj jj jj jj (jn (ji ?_))))))))))))))))
 exact rtC rfl jj jj
end Go.Proofs.YtdieokoenhncfaaGreatDoor

/- Integers of the reference: Normalize, Neg, Mul, Quo, Gcd, Pow, Cmp. -/
import Derived.Test.YtfmjdlogjmofbaaGreatDoorMem
import Derived.Test.YtfmjdlogjmofbaaGreatDoorQv
import Derived.Test.YtfmjdlogjmofbaaGreatDoorF
import Derived.Test.YtfmjdlogjmofbaaGreatDoorW
set_option maxRecDepth 3000
namespace Go.Proofs.YtfmjdlogjmofbaaGreatDoor
section
open Go.RowKit Limb
instance cbody65 : CBody Tryz.prog 65 := ⟨⟨_, Tryz.func65, rfl, by rfl⟩⟩
instance cbody102 : CBody Tryz.prog 102 := ⟨⟨_, Tryz.func102, rfl, by rfl⟩⟩
instance cbody107 : CBody Tryz.prog 107 := ⟨⟨_, Tryz.func107, rfl, by rfl⟩⟩
section
variable (En : Ev)
theorem znorm (s : Bool) (l : List Nat) (hl : l.length ≤ 1099511627776) : Fn Tryz.prog En 108 [zR s l] (zC (zv s l)) := by
 have C1 := mZS En s l hl
 refine aZb Tryz.func108 rfl Tryz.ntmps108 rfl ?_
 intro w0 h0
 refine js<|jr<|jB jj jj jj<|jA jj jj jj<|jn<|js<|jr<|jF jj jj<|jl jj jj jj<|jF jj jj<|jl jj jj jj<|jS (aZa C1 tB)<|jP jj jj jj jj<|jn<|ji ?_
 exact rtC rfl jj jj
theorem zneg (s : Bool) (l : List Nat) (hl : l.length ≤ 1099511627776) : Fn Tryz.prog En 66 [zR s l] (zC (-(zv s l))) := by
 have C1 := mZS En (!s) l hl
 rw [show zv (!s) l = -(zv s l) by unfold zv sgnZ; cases s <;> simp] at C1
 refine aZb Tryz.func66 rfl Tryz.ntmps66 rfl ?_
 intro w0 h0
 refine js<|jr<|jB jj jj jj<|jA jj jj jj<|jn<|js<|jr<|jF jj jj<|jl jj jj jj<|jS (bNo jj)<|jF jj jj<|jl jj jj jj<|jS (aZa C1 tB)<|jP jj jj jj jj<|jn<|ji ?_
 exact rtC rfl jj jj
set_option maxHeartbeats 2000000 in
theorem zmul (s : Bool) (a : List Nat) (t : Bool) (b : List Nat) (hla : Lm a) (hlb : Lm b) (ha : a.length ≤ 1073741824) (hb : b.length ≤ 1073741824) :
  Fn Tryz.prog En 65 [zR s a, zR t b] (zC (zv s a * zv t b)) := by
 have e4 : IntKind.i64.wrap ((a.length : Int) + (b.length : Int)) = ((a.length + b.length : Nat) : Int) := by rw [w64 oM oM]; omega
 refine aZb Tryz.func65 rfl Tryz.ntmps65 rfl ?_
 intro w0 h0
 refine js<|jr<|jB jj jj jj<|jB jj jj jj<|jA jj jj jj<|jn<|js<|jr<|jF jj jj<|jl jj jj jj<|jE jj<|jF jj jj<|jl jj jj jj<|jE jj<|jS (bAd jj jj e4)<|jT (dZC jj jj jj jj oM oM)<|ja jj<|jn<|js<|js<|jr<|jF jj jj<|jl jj jj jj<|jE jj<|jm jj<|jn<|jb ?_
 refine WpD.loop (α := {p : Nat × List Nat // p.1 ≤ a.length ∧ ProdInv a b p.1 p.2}) (fun p => ⟨[(2, .ptr 2 0), (3, .ptr 3 0), (4, .ptr 4 0), (5, .own 18 0 (a.length + b.length) (a.length + b.length)), (20, .one (mag a)), (21, .one (ex (.int .i64 (a.length : Int)))), (22, .one (ex (.int .i64 (p.1.1 : Int))))], [(2, [ex (.bool s), mag a]), (3, [ex (.bool t), mag b]), (4, [ex (.bool false), ex (.slice none 0 0)]), (18, (p.1.2 ++ List.replicate (a.length - p.1.1) 0).map lb)]⟩) (fun p => a.length - p.1.1) ⟨(0, List.replicate b.length 0), Nat.zero_le _, ProdInv.start a b⟩ ?_ ?_
 ·have hz : List.replicate (a.length + b.length) (ex (.int .u32 0)) = (List.replicate b.length 0 ++ List.replicate (a.length - 0) 0).map lb := by
   rw [fZb, List.replicate_append_replicate, Nat.sub_zero, Nat.add_comm]
  exact Sub.mk sJ ⟨.inl pQ, .inl pQ, .inl pQ, .inl ⟨_, jj, PsLe.of_eq hz⟩, trivial⟩
 rintro ⟨⟨i, Q⟩, hi, hP⟩
 simp only at hi hP
 dsimp only
 obtain ⟨hQl, hQm, hQv⟩ := id hP
 by_cases hlt : i < a.length
 ·obtain ⟨x, hx⟩ : ∃ x, a[i]? = some x := ⟨_, List.getElem?_eq_getElem hlt⟩
  have hxB := hla.get hx
  have e13 : IntKind.i64.wrap ((i : Int) + 1) = ((i + 1 : Nat) : Int) := by rw [w64 oM oM]; omega
  have hrep : List.replicate (a.length - i) 0 = 0 :: List.replicate (a.length - (i + 1)) 0 := by rw [show a.length - i = (a.length - (i + 1)) + 1 by omega, List.replicate_succ]
  refine js<|jr<|jS (bLt jj jj)<|jn<|js<|jt jj<|jp<|js<|jb<|js<|jr<|jm jj<|jS (aZs jj jj aM)<|jS (aZh jj jj)<|ja jj<|ja jj<|jn<|js<|jr<|ja jj<|jn<|js<|js<|jr<|jF jj jj<|jl jj jj jj<|jE jj<|jm jj<|jn<|jb ?_
  refine WpD.loop (α := {p : Nat × List Nat × Nat // p.1 ≤ b.length ∧ MulInv (Q.drop i) b x p.1 p.2.1 p.2.2}) (fun p => ⟨[(2, .ptr 2 0), (3, .ptr 3 0), (4, .ptr 4 0), (5, .own 18 0 (a.length + b.length) (a.length + b.length)), (6, .one (ex (.int .i64 (i : Int)))), (7, .one (lb x)), (8, .one (ex (.int .u64 (p.1.2.2 : Int)))), (20, .one (mag a)), (21, .one (ex (.int .i64 (a.length : Int)))), (22, .one (ex (.int .i64 (i : Int)))), (28, .one (mag b)), (29, .one (ex (.int .i64 (b.length : Int)))), (30, .one (ex (.int .i64 (p.1.1 : Int))))], [(2, [ex (.bool s), mag a]), (3, [ex (.bool t), mag b]), (4, [ex (.bool false), ex (.slice none 0 0)]), (18, (Q.take i ++ (p.1.2.1 ++ ((Q.drop i).drop p.1.1 ++ List.replicate (a.length - i) 0))).map lb)]⟩) (fun p => b.length - p.1.1) ⟨(0, [], 0), Nat.zero_le _, MulInv.start _ _ _⟩ ?_ ?_
  ·have hz : (Q ++ List.replicate (a.length - i) 0).map lb = (Q.take i ++ ([] ++ ((Q.drop i).drop 0 ++ List.replicate (a.length - i) 0))).map lb := by
    rw [List.drop_zero, List.nil_append, ← List.append_assoc, List.take_append_drop]
   exact Sub.mk sJ ⟨.inl pQ, .inl pQ, .inl pQ, .inl ⟨_, jj, PsLe.of_eq hz⟩, trivial⟩
  rintro ⟨⟨j, N, c⟩, hj, hM⟩
  simp only at hj hM
  dsimp only
  obtain ⟨hNl, hNm, hcB, _⟩ := id hM
  have hti : (Q.take i).length = i := by simp; omega
  have hRl : (Q.drop i).length = b.length := by simp; omega
  have hRm := hQm.drop i
  have eij : IntKind.i64.wrap ((i : Int) + (j : Int)) = ((i + j : Nat) : Int) := by rw [w64 oM oM]; omega
  by_cases hjb : j < b.length
  ·obtain ⟨y, hy⟩ : ∃ y, b[j]? = some y := ⟨_, List.getElem?_eq_getElem hjb⟩
   obtain ⟨r, hr⟩ : ∃ r, (Q.drop i)[j]? = some r := ⟨_, List.getElem?_eq_getElem oM⟩
   have hyB := hlb.get hy
   have hrB := hRm.get hr
   obtain ⟨m1, m2⟩ := dZ6 hcB hxB hyB hrB
   have hM' := MulInv.step hxB hRm hlb hy hr hM
   rw [aZv] at hxB hyB hrB hcB m1
   have e2 : IntKind.u64.wrap (x : Int) = (x : Int) := wu64 oM oM
   have e4' : IntKind.u64.wrap (y : Int) = (y : Int) := wu64 oM oM
   have e5' : IntKind.u64.wrap ((x : Int) * (y : Int)) = ((x * y : Nat) : Int) := by rw [← Int.natCast_mul]; exact wu64 oM oM
   have e10 : IntKind.u64.wrap (r : Int) = (r : Int) := wu64 oM oM
   have e11 : IntKind.u64.wrap (((x * y : Nat) : Int) + (r : Int)) = ((x * y + r : Nat) : Int) := by rw [wu64 oM oM]; omega
   have e12 : IntKind.u64.wrap ((c : Int) + ((x * y + r : Nat) : Int)) = ((c + (x * y + r) : Nat) : Int) := by rw [wu64 oM oM]; omega
   have hdr : (Q.drop i).drop j = r :: (Q.drop i).drop (j + 1) := by rw [List.drop_eq_getElem_cons (by omega : j < (Q.drop i).length), (List.getElem?_eq_some_iff.1 hr).2]
   have hget : ((Q.take i ++ (N ++ ((Q.drop i).drop j ++ List.replicate (a.length - i) 0))).map lb)[i + j]? = some (lb r) := by
    refine getL ?_
    rw [List.getElem?_append_right oM, hti, List.getElem?_append_right oM, hNl, hdr, show i + j - i - j = 0 by omega]
    rfl
   have hidx : i + j < a.length + b.length := oM
   have hsetl : i + j < ((Q.take i ++ (N ++ ((Q.drop i).drop j ++ List.replicate (a.length - i) 0))).map lb).length := by simp only [List.length_map, List.length_append, hti, hNl, List.length_drop, List.length_replicate]; omega
   have hset : ((Q.take i ++ (N ++ ((Q.drop i).drop j ++ List.replicate (a.length - i) 0))).map lb).set (i + j) (ex (.int .u32 (((c + (x * y + r)) % B : Nat) : Int))) = (Q.take i ++ ((N ++ [(c + (x * y + r)) % B]) ++ ((Q.drop i).drop (j + 1) ++ List.replicate (a.length - i) 0))).map lb := by
    rw [hdr]
    have := setL (Q.take i ++ N) ((Q.drop i).drop (j + 1) ++ List.replicate (a.length - i) 0) r ((c + (x * y + r)) % B)
    rw [List.length_append, hti, hNl] at this
    simp only [List.append_assoc, List.cons_append, List.nil_append] at this ⊢
    exact this
   have e16 : IntKind.i64.wrap ((j : Int) + 1) = ((j + 1 : Nat) : Int) := by rw [w64 oM oM]; omega
   refine js<|jr<|jS (bLt jj jj)<|jn<|js<|jt jj<|jp<|js<|jb<|js<|jr<|jm jj<|jS (aZs jj jj aM)<|jS (aZh jj jj)<|ja jj<|ja jj<|jn<|js<|jr<|jm jj<|jm jj<|jS (bCv jj e2)<|jm jj<|jS (bCv jj e4')<|jS (bMu jj jj e5')<|jm jj<|jm jj<|jm jj<|jS (bAd jj jj eij)<|jS (aZO jj jj aO)<|jS (aZ9 jj jj aM)<|jS (bCv jj e10)<|jS (bAd jj jj e11)<|jS (bAd jj jj e12)<|ja jj<|jn<|js<|jr<|jm jj<|jm jj<|jm jj<|jS (bAd jj jj eij)<|jm jj<|jS (bCv jj (u32w _))<|jS (aZO jj jj aO)<|jO (aZK jj jj jj aM aM)<|jn ?_
   refine jr<|jm jj<|jS (aZf jj jj (fun w => aZH w _ _ _ _ _ _ _ aW) (vint (gZ2 _)))<|ja jj<|jn<|jr<|jS (bAd jj jj e16)<|jm jj<|jn ?_
   refine ⟨⟨(j + 1, N ++ [(c + (x * y + r)) % B], (c + (x * y + r)) / B), hjb, hM'⟩, ?_, by simp only; omega⟩
   exact Sub.mk sJ sJ
  ·have hjb' : j = b.length := oM
   subst hjb'
   have hdr : (Q.drop i).drop b.length = [] := List.drop_eq_nil_of_le oM
   have hcw : ((c % B : Nat) : Int) = (c : Int) := by rw [Nat.mod_eq_of_lt hcB]
   have hidx : i + b.length < a.length + b.length := oM
   have hsetl : i + b.length < ((Q.take i ++ (N ++ ((Q.drop i).drop b.length ++ List.replicate (a.length - i) 0))).map lb).length := by simp only [List.length_map, List.length_append, hti, hNl, List.length_drop, List.length_replicate]; omega
   have hset : ((Q.take i ++ (N ++ ((Q.drop i).drop b.length ++ List.replicate (a.length - i) 0))).map lb).set (i + b.length) (ex (.int .u32 (c : Int))) = ((Q.take i ++ N ++ [c]) ++ List.replicate (a.length - (i + 1)) 0).map lb := by
    rw [hdr, hrep]
    have := setL (Q.take i ++ N) (List.replicate (a.length - (i + 1)) 0) 0 c
    rw [List.length_append, hti, hNl] at this
    simp only [List.append_assoc, List.cons_append, List.nil_append] at this ⊢
    exact this
   refine js<|jr<|jS (bLf jj jj)<|jn<|js<|jf jj<|je<|jr<|jm jj<|jm jj<|jF jj jj<|jl jj jj jj<|jE jj<|jS (bAd jj jj eij)<|jm jj<|jS (bCv jj ((u32w _).trans hcw))<|jS (aZO jj jj aO)<|jO (aZK jj jj jj aM aM)<|jn<|jr<|jS (bAd jj jj e13)<|jm jj<|jn ?_
   refine ⟨⟨(i + 1, Q.take i ++ N ++ [c]), hlt, hP.step hx hM⟩, ?_, by simp only; omega⟩
   exact Sub.mk sJ sJ
 ·have hia : i = a.length := oM
  subst hia
  obtain ⟨d1, d2⟩ := hP.done
  have C1 := mZS En (s != t) Q oM
  rw [show zv (s != t) Q = zv s a * zv t b by unfold zv; rw [d2, jZp]] at C1
  rw [Nat.sub_self, List.replicate_zero, List.append_nil]
  refine js<|jr<|jS (bLf jj jj)<|jn<|js<|jf jj<|je<|js ?_
  refine WpD.sub (τ := ⟨[(2, .ptr 2 0), (3, .ptr 3 0), (4, .ptr 4 0), (5, .one (mag Q))], [(2, [ex (.bool s), mag a]), (3, [ex (.bool t), mag b]), (4, [ex (.bool false), ex (.slice none 0 0)])]⟩) ?_ ?_
  ·refine Sub.pub 18 rfl rfl ?_ ?_ rfl
   ·repeat (first | exact trivial | refine ⟨.inl ⟨pK, trivial⟩, ?_⟩ | refine ⟨.inl ⟨⟨_, rfl, rfl⟩, Option.some_ne_none _⟩, ?_⟩ | refine ⟨.inl ⟨⟨_, rfl, rfl⟩, ⟨Option.some_ne_none _, Option.some_ne_none _⟩⟩, ?_⟩ | refine ⟨.inr (.inl ⟨_, _, _, _, rfl, rfl, by rw [← hQl]; exact bZv (Nat.le_refl _) d1⟩), ?_⟩ | refine ⟨.inr (.inr (.inl ⟨_, _, _, rfl, rfl, by rw [← hQl]; exact bZv (Nat.le_refl _) d1⟩)), ?_⟩)
   ·repeat (first | exact trivial | refine jz ?_ | refine jy rfl ?_)
  refine kO ?_
  refine jr<|jF jj jj<|jl jj jj jj<|jF jj jj<|jl jj jj jj<|jS (aZ6 jj jj (fun w => iZy w CBool.ok _ _ _ _))<|jm jj<|jS (aZa C1 tB)<|jP jj jj jj jj<|jn<|ji ?_
  exact rtC rfl jj jj
theorem zquo (s : Bool) (l : List Nat) (s' : Bool) (l' : List Nat) (hl : l.length ≤ 536870912) (hl' : l'.length ≤ 536870912) (hlm : Lm l) (hlm' : Lm l') (hy : zv s' l' ≠ 0) :
  Fn Tryz.prog En 63 [zR s l, zR s' l'] (zC (zv s l / zv s' l')) := by
 have C1 := mZU En s l s' l' hl hl' hlm hlm' hy
 refine aZb Tryz.func63 rfl Tryz.ntmps63 rfl ?_
 intro w0 h0
 refine js<|jr<|jB jj jj jj<|jB jj jj jj<|jA jj jj jj<|jn<|js<|jr<|jL jj jj jj<|jL jj jj jj<|jS (aZa C1 ⟨jj, jj, trivial⟩)<|jm jj<|jx' jj jj<|jx' jj jj<|jx' jj jj<|jA jj jj jj<|jA jj jj jj<|jP jj jj jj jj<|jP jj jj jj jj<|ja jj<|jn<|js<|jr<|jL jj jj jj<|jP jj jj jj jj<|jn<|ji ?_
 exact rtC rfl jj jj
theorem pZT {z : Int} (h : z ≠ 0) : sg3 z ≠ 0 := by unfold sg3; rw [if_neg h]; split <;> decide
set_option maxHeartbeats 1000000 in
theorem zgcd (s : Bool) (l : List Nat) (s' : Bool) (l' : List Nat) (hl : Lm l) (hl' : Lm l') (hlen : l.length ≤ 536870912) (hlen' : l'.length ≤ 536870912) :
  Fn Tryz.prog En 102 [zR s l, zR s' l'] (zC (Nat.gcd (zv s l).natAbs (zv s' l').natAbs : Nat)) := by
 have C1 := fabs En s l oM
 have C2 := fabs En s' l' oM
 have D1 := gZu s hl
 have D2 := gZu s' hl'
 unfold zl at D1 D2
 refine aZb Tryz.func102 rfl Tryz.ntmps102 rfl ?_
 intro w0 h0
 refine js<|jr<|jB jj jj jj<|jB jj jj jj<|jA jj jj jj<|jn<|js<|jr<|jL jj jj jj<|jS (aZa C1 ⟨jj, trivial⟩)<|jL jj jj jj<|jS (aZa C2 ⟨jj, trivial⟩)<|jA jj jj jj<|jA jj jj jj<|jP jj jj jj jj<|jP jj jj jj jj<|jn<|js<|jb ?_
 refine WpD.loop (α := {p : Nat × Nat // Nat.gcd p.1 p.2 = Nat.gcd (zv s l).natAbs (zv s' l').natAbs ∧ (digs p.1).length ≤ 536870912 ∧ (digs p.2).length ≤ 536870912})
  (fun p => ⟨[(4, .ptr 4 0), (5, .ptr 5 0), (6, .ptr 6 0)], [(4, [ex (.bool false), ex (.slice none 0 0)]), (5, aZL p.1.1), (6, aZL p.1.2)]⟩) (fun p => p.1.2) ⟨((zv s l).natAbs, (zv s' l').natAbs), rfl, oD, oD⟩ ?_ ?_
 ·exact Sub.mk sJ sJ
 rintro ⟨⟨x, y⟩, hg, hx, hy⟩
 dsimp only at hg hx hy ⊢
 have C3 := pZh En (y : Int) (Nat.le_trans hy oM)
 by_cases hy0 : y = 0
 ·subst hy0
  have hgx : x = Nat.gcd (zv s l).natAbs (zv s' l').natAbs := by rw [← hg]; simp
  rw [← hgx]
  have h0 : sg3 ((0 : Nat) : Int) = 0 := rfl
  refine js<|js<|jr<|jL jj jj jj<|jS (aZa C3 ⟨jj, trivial⟩)<|jS (bNf jj jj)<|jn<|jf jj<|je<|js<|jr<|jL jj jj jj<|jP jj jj jj jj<|jn<|ji ?_
  exact rtC rfl jj jj
 ·have h0 : sg3 ((y : Nat) : Int) ≠ 0 := pZT oM
  have C4 := crem En (x : Int) (y : Int) hx hy oM
  rw [show (x : Int) % (y : Int) = ((x % y : Nat) : Int) from rfl] at C4
  have hlt := Nat.mod_lt x (Nat.pos_of_ne_zero hy0)
  refine js<|js<|jr<|jL jj jj jj<|jS (aZa C3 ⟨jj, trivial⟩)<|jS (bNt jj jj)<|jn<|jt jj<|jp<|jb<|jr<|jL jj jj jj<|jL jj jj jj<|jL jj jj jj<|jS (aZa C4 ⟨jj, jj, trivial⟩)<|jP jj jj jj jj<|jP jj jj jj jj<|jn ?_
  refine ⟨⟨(y, x % y), by dsimp only; rw [← hg, Nat.gcd_comm x y, Nat.gcd_rec y x, Nat.gcd_comm], hy, Nat.le_trans (aZS (Nat.le_of_lt hlt)) hy⟩, ?_, hlt⟩
  exact Sub.mk sJ sJ
theorem zcmp (s : Bool) (l : List Nat) (s' : Bool) (l' : List Nat) (hl : Lm l) (hl' : Lm l') (hlen : l.length ≤ 1099511627776) (hlen' : l'.length ≤ 1099511627776) :
  Fn Tryz.prog En 107 [zR s l, zR s' l'] (ex (.int .i64 (cmpZ (zv s l) (zv s' l')))) := by
 have C1 := kZY En s l hlen
 have C2 := kZY En s' l' hlen'
 have C3 := fZI En l hlen
 have C4 := fZI En l' hlen'
 have D1 := aZW hlen hl
 have D2 := aZW hlen' hl'
 unfold zv at *
 generalize val l = x at *
 generalize val l' = y at *
 have C5 := fcmp En (digs x) (digs y) oM oM
 rw [bZY] at C5
 by_cases h0 : sg3 (sgnZ s x) ≠ sg3 (sgnZ s' y)
 ·by_cases h1 : sg3 (sgnZ s x) < sg3 (sgnZ s' y)
  ·rw [show cmpZ (sgnZ s x) (sgnZ s' y) = -1 by unfold cmpZ; rw [if_pos (jZq h1)]]
   refine aZb Tryz.func107 rfl Tryz.ntmps107 rfl ?_
   intro w0 h0
   refine js<|jr<|jB jj jj jj<|jB jj jj jj<|ja jj<|jn<|js<|jr<|jL jj jj jj<|jS (aZa C1 ⟨jj, trivial⟩)<|jL jj jj jj<|jS (aZa C2 ⟨jj, trivial⟩)<|ja jj<|ja jj<|jn<|js<|js<|jr<|jm jj<|jm jj<|jS (bNt jj jj)<|jn<|jt jj<|js<|js<|jr<|jm jj<|jm jj<|jS (bLt jj jj)<|jn<|jt jj<|js<|jr<|ja jj<|jn<|ji ?_
   exact rtT rfl jj
  ·have h2 : sg3 (sgnZ s' y) < sg3 (sgnZ s x) := oM
   have h3 := jZq h2
   rw [show cmpZ (sgnZ s x) (sgnZ s' y) = 1 by unfold cmpZ; rw [if_neg oM, if_pos h3]]
   refine aZb Tryz.func107 rfl Tryz.ntmps107 rfl ?_
   intro w0 h0
   refine js<|jr<|jB jj jj jj<|jB jj jj jj<|ja jj<|jn<|js<|jr<|jL jj jj jj<|jS (aZa C1 ⟨jj, trivial⟩)<|jL jj jj jj<|jS (aZa C2 ⟨jj, trivial⟩)<|ja jj<|ja jj<|jn<|js<|js<|jr<|jm jj<|jm jj<|jS (bNt jj jj)<|jn<|jt jj<|js<|js<|jr<|jm jj<|jm jj<|jS (bLf jj jj)<|jn<|jf jj<|jp<|js<|jr<|ja jj<|jn<|ji ?_
   exact rtT rfl jj
 ·have h0 : sg3 (sgnZ s x) = sg3 (sgnZ s' y) := oM
  have e8 : IntKind.i64.wrap (sg3 (sgnZ s x) * (if x < y then -1 else if y < x then 1 else 0)) = cmpZ (sgnZ s x) (sgnZ s' y) := by
   rw [qZJ (s' := s') (y := y) h0]
   have := nZp (sgnZ s x) (sgnZ s' y)
   exact w64 oM oM
  refine aZb Tryz.func107 rfl Tryz.ntmps107 rfl ?_
  intro w0 h0
  refine js<|jr<|jB jj jj jj<|jB jj jj jj<|ja jj<|jn<|js<|jr<|jL jj jj jj<|jS (aZa C1 ⟨jj, trivial⟩)<|jL jj jj jj<|jS (aZa C2 ⟨jj, trivial⟩)<|ja jj<|ja jj<|jn<|js<|js<|jr<|jm jj<|jm jj<|jS (bNf jj jj)<|jn<|jf jj<|jp<|js<|jr<|jm jj<|jF jj jj<|jl jj jj jj<|jS (aZa C3 ⟨jj, trivial⟩)<|jF jj jj<|jl jj jj jj<|jS (aZa C4 ⟨jj, trivial⟩)<|jS (aZa C5 ⟨jj, jj, trivial⟩)<|jS (bMu jj jj e8)<|ja jj<|jn<|ji ?_
  exact rtT rfl jj
end
end
section
open Go.RowKit Limb
instance cbody131 : CBody Tryz.prog 131 := ⟨⟨_, Tryz.func131, rfl, by rfl⟩⟩
instance cbody192 : CBody Tryz.prog 192 := ⟨⟨_, Tryz.func192, rfl, by rfl⟩⟩
instance cbody199 : CBody Tryz.prog 199 := ⟨⟨_, Tryz.func199, rfl, by rfl⟩⟩
instance cbody169 : CBody Tryz.prog 169 := ⟨⟨_, Tryz.func169, rfl, by rfl⟩⟩
instance cbody130 : CBody Tryz.prog 130 := ⟨⟨_, Tryz.func130, rfl, by rfl⟩⟩
theorem oZb (s : Bool) (x y : Nat) : sgnZ s x + sgnZ s y = sgnZ s (x + y) := by unfold sgnZ; cases s <;> simp <;> omega
theorem nZY {s : Bool} {x y : Nat} (h : y ≤ x) : sgnZ s x + sgnZ (!s) y = sgnZ s (x - y) := by unfold sgnZ; cases s <;> simp <;> omega
theorem lZD {s : Bool} {x y : Nat} (h : x ≤ y) : sgnZ s x + sgnZ (!s) y = sgnZ (!s) (y - x) := by unfold sgnZ; cases s <;> simp <;> omega
theorem nZZ (s : Bool) (x : Nat) : sgnZ (!s) x = -sgnZ s x := by unfold sgnZ; cases s <;> simp
section
variable (En : Ev)
theorem iaddS (s : Bool) (x : Nat) (t : Bool) (y : Nat) (hx : (digs x).length ≤ 274877906944) (hy : (digs y).length ≤ 274877906944) :
  Fn Tryz.prog En 199 [ex (.bool s), mag (digs x), ex (.bool t), mag (digs y)] (zC (sgnZ s x + sgnZ t y)) := by
 by_cases hst : s = t
 ·subst hst
  rw [oZb]
  have C1 := nadd En (digs x) (digs y) oM oM (aZg _) (aZg _)
  rw [aZi, aZi] at C1
  have hb : (s == s) = true := by simp
  refine aZb Tryz.func199 rfl Tryz.ntmps199 rfl ?_
  intro w0 h0
  refine js<|jr<|jA jj jj jj<|jn<|js<|jb<|js<|jr<|jm jj<|jm jj<|jS (aZf jj jj (fun w => aZN w CBool.ok _ _ _ _) (bZe hb))<|ja jj<|jn<|jt jj<|js<|jr<|jm jj<|jm jj<|jm jj<|jS (aZa C1 tB)<|jS (aZa (cZ4 En s (x + y)) tB)<|jP jj jj jj jj<|jn<|ji ?_
  exact rtC rfl jj jj
 ·have ht : t = !s := by cases s <;> cases t <;> simp_all
  subst ht
  have hb : (s == !s) = false := by simp
  have C0 := dZ1 En (digs x) (digs y) oM (aZg _) (aZg _)
  rw [bZY] at C0
  by_cases h : y ≤ x
  ·rw [nZY h]
   have C1 := nsub En (digs x) (digs y) oM (aZS h) (aZg _) (aZg _) (by rw [aZi, aZi]; exact h)
   rw [aZi, aZi] at C1
   have hc : (if x < y then -1 else if y < x then 1 else 0 : Int) ≥ 0 := by repeat' split <;> omega
   refine aZb Tryz.func199 rfl Tryz.ntmps199 rfl ?_
   intro w0 h0
   refine js<|jr<|jA jj jj jj<|jn<|js<|jb<|js<|jr<|jm jj<|jm jj<|jS (aZf jj jj (fun w => aZN w CBool.ok _ _ _ _) (bZe hb))<|ja jj<|jn<|jf jj<|js<|jr<|jm jj<|jm jj<|jS (aZa C0 tB)<|jS (bHt jj jj)<|ja jj<|jn<|jt jj<|js<|jr<|jm jj<|jm jj<|jm jj<|jS (aZa C1 tB)<|jS (aZa (cZ4 En s (x - y)) tB)<|jP jj jj jj jj<|jn<|ji ?_
   exact rtC rfl jj jj
  ·rw [lZD oM]
   have C1 := nsub En (digs y) (digs x) oM (aZS oM) (aZg _) (aZg _) (by rw [aZi, aZi]; omega)
   rw [aZi, aZi] at C1
   have hc : ¬ (if x < y then -1 else if y < x then 1 else 0 : Int) ≥ 0 := by rw [if_pos oM]; omega
   refine aZb Tryz.func199 rfl Tryz.ntmps199 rfl ?_
   intro w0 h0
   refine js<|jr<|jA jj jj jj<|jn<|js<|jb<|js<|jr<|jm jj<|jm jj<|jS (aZf jj jj (fun w => aZN w CBool.ok _ _ _ _) (bZe hb))<|ja jj<|jn<|jf jj<|js<|jr<|jm jj<|jm jj<|jS (aZa C0 tB)<|jS (bHf jj jj)<|ja jj<|jn<|jf jj<|jp<|js<|jr<|jm jj<|jm jj<|jm jj<|jS (aZa C1 tB)<|jS (aZa (cZ4 En (!s) (y - x)) tB)<|jP jj jj jj jj<|jn<|ji ?_
   exact rtC rfl jj jj
theorem ineg (s : Bool) (l : List Nat) (hl : Lm l) (hlen : l.length ≤ 274877906944) : Fn Tryz.prog En 131 [zR s l] (zC (-(zv s l))) := by
 have C1 := cZx En l hl oM
 have D1 := aZW hlen hl
 unfold zv
 generalize val l = x at *
 rw [← nZZ]
 refine aZb Tryz.func131 rfl Tryz.ntmps131 rfl ?_
 intro w0 h0
 refine js<|jr<|jB jj jj jj<|jA jj jj jj<|jn<|js<|jr<|jF jj jj<|jl jj jj jj<|jS (bNo jj)<|jF jj jj<|jl jj jj jj<|jS (aZa C1 tA)<|jS (aZa (jZK En (digs x) (aZg _) oM) tA)<|jS (aZa (cZ4 En (!s) x) tB)<|jP jj jj jj jj<|jn<|ji ?_
 exact rtC rfl jj jj
theorem iadd (s : Bool) (l : List Nat) (s' : Bool) (l' : List Nat) (hl : Lm l) (hl' : Lm l') (hlen : l.length ≤ 274877906944) (hlen' : l'.length ≤ 274877906944) :
  Fn Tryz.prog En 192 [zR s l, zR s' l'] (zC (zv s l + zv s' l')) := by
 have C1 := cZx En l hl oM
 have C2 := cZx En l' hl' oM
 have D1 := aZW hlen hl
 have D2 := aZW hlen' hl'
 unfold zv
 refine aZb Tryz.func192 rfl Tryz.ntmps192 rfl ?_
 intro w0 h0
 refine js<|jr<|jB jj jj jj<|jB jj jj jj<|jA jj jj jj<|jn<|js<|jr<|jF jj jj<|jl jj jj jj<|jF jj jj<|jl jj jj jj<|jS (aZa C1 tA)<|jF jj jj<|jl jj jj jj<|jF jj jj<|jl jj jj jj<|jS (aZa C2 tA)<|jS (aZa (iaddS En s _ s' _ D1 D2) tD)<|jP jj jj jj jj<|jn<|ji ?_
 exact rtC rfl jj jj
theorem kZe (u v : Nat) : Nat.gcd v (u % v) = Nat.gcd u v := by rw [Nat.gcd_comm v, ← Nat.gcd_rec, Nat.gcd_comm]
theorem digs0 {v : Nat} : (digs v).length = 0 ↔ v = 0 := by
 constructor
 ·intro h
  by_cases hv : v = 0
  ·exact hv
  ·rw [aZR hv] at h; simp at h
 ·rintro rfl; rfl
set_option maxHeartbeats 1000000 in
theorem ngcd (x y : Nat) (hx : (digs x).length ≤ 274877906944) (hy : (digs y).length ≤ 274877906944) : Fn Tryz.prog En 169 [mag (digs x), mag (digs y)] (mag (digs (Nat.gcd x y))) := by
 refine aZb Tryz.func169 rfl Tryz.ntmps169 rfl ?_
 intro w0 h0
 refine js<|jr<|ja jj<|jn<|js<|jb ?_
 refine WpD.loop (α := {p : Nat × Nat // Nat.gcd p.1 p.2 = Nat.gcd x y ∧ (digs p.1).length ≤ 274877906944 ∧ (digs p.2).length ≤ 274877906944}) (fun p => ⟨[(0, .one (mag (digs p.1.1))), (1, .one (mag (digs p.1.2)))], []⟩) (fun p => p.1.2) ⟨(x, y), rfl, hx, hy⟩ ?_ ?_
 ·exact Sub.mk sJ sJ
 rintro ⟨⟨u, v⟩, hg, hu, hv⟩
 dsimp only at hg hu hv ⊢
 have next : v ≠ 0 → ∃ p : {p : Nat × Nat // Nat.gcd p.1 p.2 = Nat.gcd x y ∧ (digs p.1).length ≤ 274877906944 ∧ (digs p.2).length ≤ 274877906944}, p.1 = (v, u % v) ∧ u % v < v := fun hv0 => by
  have hlt := Nat.mod_lt u (Nat.pos_of_ne_zero hv0)
  exact ⟨⟨(v, u % v), by rw [kZe]; exact hg, hv, Nat.le_trans (aZS (Nat.le_of_lt hlt)) hv⟩, rfl, hlt⟩
 have C4 := fun hv0 : v ≠ 0 => ndiv En u v oM hv0
 unfold DivP at C4
 by_cases h1 : (digs u).length > 2
 ·by_cases h3 : (digs v).length = 0
  ·have hv0 := digs0.1 h3
   subst hv0
   have : u = Nat.gcd x y := by simpa using hg
   rw [← this]
   refine js<|js<|jr<|jm jj<|jE jj<|jS (bGt jj jj)<|jm jj<|jk<|jk<|jk<|jq jj jj<|jn<|jt jj<|jp<|jb<|js<|js<|jr<|jm jj<|jE jj<|jS (bEt jj jj)<|jn<|jt jj<|js<|jr<|jm jj<|jS (aZa (jZK En (digs u) (aZg _) oM) tA)<|ja jj<|jn<|ji ?_
   exact rtT rfl jj
  ·have hv0 : v ≠ 0 := fun h => h3 (digs0.2 h)
   obtain ⟨p, hp, hlt⟩ := next hv0
   have C5 := C4 hv0
   refine js<|js<|jr<|jm jj<|jE jj<|jS (bGt jj jj)<|jm jj<|jk<|jk<|jk<|jq jj jj<|jn<|jt jj<|jp<|jb<|js<|js<|jr<|jm jj<|jE jj<|jS (bEf jj jj)<|jn<|jf jj<|jp<|js<|jr<|jm jj<|jm jj<|jS (aZa C5 tB)<|jm jj<|jx' jj jj<|jx' jj jj<|ja jj<|ja jj<|jn<|jr<|jm jj<|jm jj<|ja jj<|ja jj<|jn ?_
   refine ⟨p, ?_, by rw [hp]; exact hlt⟩
   rw [hp]
   exact Sub.mk sJ sJ
 ·by_cases h2 : (digs v).length > 2
  ·have hv0 : v ≠ 0 := fun h => by rw [digs0.2 h] at h2; omega
   obtain ⟨p, hp, hlt⟩ := next hv0
   have C5 := C4 hv0
   refine js<|js<|jr<|jm jj<|jE jj<|jS (bGf jj jj)<|jm jj (jgm jj (jg (bZo jj CSlice.ok) (jg (bGt jj jj) (jQ jj jj (jn (jt jj (jp (jb (js (js (jr (jm jj (jE jj (jS (bEf jj jj) (jn (jf jj (jp (js (jr (jm jj (jm jj (jS (aZa C5 tB) (jm jj (jx' jj jj (jx' jj jj (ja jj (ja jj (jn (jr (jm jj (jm jj (ja jj (ja jj (jn ?_))))))))))))))))))))))))))))))))))
   refine ⟨p, ?_, by rw [hp]; exact hlt⟩
   rw [hp]
   exact Sub.mk sJ sJ
  ·have W1 := kZM En (digs u) (aZg _) oM
   have W2 := kZM En (digs v) (aZg _) oM
   rw [aZi] at W1 W2
   have hu64 : u < 18446744073709551616 := by have := bZ2 (aZg u); rw [aZi] at this; exact Nat.lt_of_lt_of_le this (Nat.le_trans (Nat.pow_le_pow_right aZY (show _ ≤ 2 by omega)) (by rw [aZv]; decide))
   have hv64 : v < 18446744073709551616 := by have := bZ2 (aZg v); rw [aZi] at this; exact Nat.lt_of_lt_of_le this (Nat.le_trans (Nat.pow_le_pow_right aZY (show _ ≤ 2 by omega)) (by rw [aZv]; decide))
   refine js<|js<|jr<|jm jj<|jE jj<|jS (bGf jj jj)<|jm jj (jgm jj (jg (bZo jj CSlice.ok) (jg (bGf jj jj) (jQ jj jj (jn (jf jj (je (js (jr (jm jj (jS (aZa W1 tA) (jm jj (jS (aZa W2 tA) (ja jj (ja jj (jn (js (jb ?_))))))))))))))))))
   refine WpD.loop (α := {p : Nat × Nat // Nat.gcd p.1 p.2 = Nat.gcd x y ∧ p.1 < 18446744073709551616 ∧ p.2 < 18446744073709551616}) (fun p => ⟨[(7, .one (ex (.int .u64 (p.1.1 : Nat)))), (8, .one (ex (.int .u64 (p.1.2 : Nat))))], []⟩) (fun p => p.1.2) ⟨(u, v), hg, hu64, hv64⟩ ?_ ?_
   ·exact Sub.mk sJ sJ
   rintro ⟨⟨p, q⟩, hpq, hp, hq⟩
   dsimp only at hpq hp hq ⊢
   by_cases hq0 : q = 0
   ·subst hq0
    have e : p = Nat.gcd x y := by simpa using hpq
    have C6 := cZs En p hp
    rw [← e]
    refine js<|js<|jr<|jm jj<|jS (bNf jj jj)<|jn<|jf jj<|je<|js<|jr<|jm jj<|jS (aZa C6 tA)<|ja jj<|jn<|ji ?_
    exact rtT rfl jj
   ·have hlt := Nat.mod_lt p (Nat.pos_of_ne_zero hq0)
    have e8 : ((p : Nat) : Int).tmod (q : Nat) = ((p % q : Nat) : Int) := (Int.ofNat_tmod p q).symm
    have hne : ((q : Nat) : Int) ≠ 0 := oM
    refine js<|js<|jr<|jm jj<|jS (bNt jj jj)<|jn<|jt jj<|jp<|jb<|jr<|jm jj<|jm jj<|jm jj<|jS (bRe jj jj e8)<|ja jj<|ja jj<|jn ?_
    refine ⟨⟨(q, p % q), by rw [kZe]; exact hpq, hq, Nat.lt_trans hlt hq⟩, ?_, hlt⟩
    exact Sub.mk sJ sJ
theorem igcd (s : Bool) (l : List Nat) (s' : Bool) (l' : List Nat) (hl : Lm l) (hl' : Lm l') (hlen : l.length ≤ 274877906944) (hlen' : l'.length ≤ 274877906944) :
  Fn Tryz.prog En 130 [zR s l, zR s' l'] (zC (Nat.gcd (zv s l).natAbs (zv s' l').natAbs : Nat)) := by
 have C1 := cZx En l hl oM
 have C2 := cZx En l' hl' oM
 have D1 := aZW hlen hl
 have D2 := aZW hlen' hl'
 rw [jZd, jZd]
 have C4 := cZ4 En false (Nat.gcd (val l) (val l'))
 rw [show sgnZ false (Nat.gcd (val l) (val l')) = ((Nat.gcd (val l) (val l') : Nat) : Int) from rfl] at C4
 refine aZb Tryz.func130 rfl Tryz.ntmps130 rfl ?_
 intro w0 h0
 refine js<|jr<|jB jj jj jj<|jB jj jj jj<|jA jj jj jj<|jn<|js<|jr<|jF jj jj<|jl jj jj jj<|jS (aZa C1 tA)<|jF jj jj<|jl jj jj jj<|jS (aZa C2 tA)<|jS (aZa (ngcd En _ _ D1 D2) tB)<|jS (aZa C4 tB)<|jP jj jj jj jj<|jn<|ji ?_
 exact rtC rfl jj jj
end
end
end Go.Proofs.YtfmjdlogjmofbaaGreatDoor

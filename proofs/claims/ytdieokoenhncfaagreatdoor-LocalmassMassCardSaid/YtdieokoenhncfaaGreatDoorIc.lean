/- Integers of the reference: Normalize, Neg, Mul, Quo, Gcd, Pow, Cmp. -/
import Derived.Test.YtdieokoenhncfaaGreatDoorMem
import Derived.Test.YtdieokoenhncfaaGreatDoorQv
import Derived.Test.YtdieokoenhncfaaGreatDoorQ
set_option maxRecDepth 3000
namespace Go.Proofs.YtdieokoenhncfaaGreatDoor
open Go.RowKit Limb
instance cbody74 : CBody Tryz.prog 74 := ⟨⟨_, Tryz.func74, rfl, by rfl⟩⟩
instance cbody121 : CBody Tryz.prog 121 := ⟨⟨_, Tryz.func121, rfl, by rfl⟩⟩
instance cbody114 : CBody Tryz.prog 114 := ⟨⟨_, Tryz.func114, rfl, by rfl⟩⟩
section
variable (En : Ev)
theorem znorm (s : Bool) (l : List Nat) (hl : l.length ≤ 1099511627776) : Fn Tryz.prog En 146 [zR s l] (zC (zv s l)) := by
 have C1 := kZc En s l hl
 refine aZb Tryz.func146 rfl Tryz.ntmps146 rfl ?_
 intro w0 h0
 refine js (jr (jB jj jj jj (jA jj jj jj (jn (js (jr (jF jj jj (jl jj jj jj (jF jj jj (jl jj jj jj (jS (aZa C1 ⟨jj, jj, trivial⟩) (jP jj jj jj jj (jn (ji ?_))))))))))))))
 exact rtC rfl jj jj
theorem zneg (s : Bool) (l : List Nat) (hl : l.length ≤ 1099511627776) : Fn Tryz.prog En 120 [zR s l] (zC (-(zv s l))) := by
 have C1 := kZc En (!s) l hl
 rw [show zv (!s) l = -(zv s l) by unfold zv sgnZ; cases s <;> simp] at C1
 refine aZb Tryz.func120 rfl Tryz.ntmps120 rfl ?_
 intro w0 h0
 refine js (jr (jB jj jj jj (jA jj jj jj (jn (js (jr (jF jj jj (jl jj jj jj (jS (bNo jj) (jF jj jj (jl jj jj jj (jS (aZa C1 ⟨jj, jj, trivial⟩) (jP jj jj jj jj (jn (ji ?_)))))))))))))))
 exact rtC rfl jj jj
set_option maxHeartbeats 2000000 in
theorem zmul (s : Bool) (a : List Nat) (t : Bool) (b : List Nat) (hla : Lm a) (hlb : Lm b) (ha : a.length ≤ 1073741824) (hb : b.length ≤ 1073741824) :
  Fn Tryz.prog En 74 [zR s a, zR t b] (zC (zv s a * zv t b)) := by
 have e4 : IntKind.i64.wrap ((a.length : Int) + (b.length : Int)) = ((a.length + b.length : Nat) : Int) := by rw [w64 (by omega) (by omega)]; omega
 refine aZb Tryz.func74 rfl Tryz.ntmps74 rfl ?_
 intro w0 h0
 refine js (jr (jB jj jj jj (jB jj jj jj (jA jj jj jj (jn (js (jr (jF jj jj (jl jj jj jj (jE jj (jF jj jj (jl jj jj jj (jE jj (jS (bAd jj jj e4) (jT (cZL jj jj jj jj (by omega) (by omega)) (ja jj (jn (js (js (jr (jF jj jj (jl jj jj jj (jE jj (jm jj (jn (jb ?_))))))))))))))))))))))))))
 refine WpD.loop (α := {p : Nat × List Nat // p.1 ≤ a.length ∧ ProdInv a b p.1 p.2}) (fun p => ⟨[(2, .ptr 2 0), (3, .ptr 3 0), (4, .ptr 4 0), (5, .own 18 0 (a.length + b.length) (a.length + b.length)), (20, .one (mag a)), (21, .one (ex (.int .i64 (a.length : Int)))), (22, .one (ex (.int .i64 (p.1.1 : Int))))], [(2, [ex (.bool s), mag a]), (3, [ex (.bool t), mag b]), (4, [ex (.bool false), ex (.slice none 0 0)]), (18, (p.1.2 ++ List.replicate (a.length - p.1.1) 0).map lb)]⟩) (fun p => a.length - p.1.1) ⟨(0, List.replicate b.length 0), Nat.zero_le _, ProdInv.start a b⟩ ?_ ?_
 ·have hz : List.replicate (a.length + b.length) (ex (.int .u32 0)) = (List.replicate b.length 0 ++ List.replicate (a.length - 0) 0).map lb := by
   rw [dZT, List.replicate_append_replicate, Nat.sub_zero, Nat.add_comm]
  refine Sub.mk ?_ ⟨.inl ⟨_, jj, PsLe.refl _⟩, .inl ⟨_, jj, PsLe.refl _⟩, .inl ⟨_, jj, PsLe.refl _⟩, .inl ⟨_, jj, PsLe.of_eq hz⟩, trivial⟩
  repeat (first | exact trivial | refine jV jj ?_ | refine jw jj (js0 jj) ?_)
 rintro ⟨⟨i, Q⟩, hi, hP⟩
 simp only at hi hP
 dsimp only
 obtain ⟨hQl, hQm, hQv⟩ := id hP
 by_cases hlt : i < a.length
 ·obtain ⟨x, hx⟩ : ∃ x, a[i]? = some x := ⟨_, List.getElem?_eq_getElem hlt⟩
  have hxB := hla.get hx
  have e13 : IntKind.i64.wrap ((i : Int) + 1) = ((i + 1 : Nat) : Int) := by rw [w64 (by omega) (by omega)]; omega
  have hrep : List.replicate (a.length - i) 0 = 0 :: List.replicate (a.length - (i + 1)) 0 := by rw [show a.length - i = (a.length - (i + 1)) + 1 by omega, List.replicate_succ]
  refine js (jr (jS (bLt jj jj) (jn (js (jt jj (jp (js (jb (js (jr (jm jj (jS (aZv jj jj (by assumption)) (jS (aZf jj jj) (ja jj (ja jj (jn (js (jr (ja jj (jn (js (js (jr (jF jj jj (jl jj jj jj (jE jj (jm jj (jn (jb ?_)))))))))))))))))))))))))))))
  refine WpD.loop (α := {p : Nat × List Nat × Nat // p.1 ≤ b.length ∧ MulInv (Q.drop i) b x p.1 p.2.1 p.2.2}) (fun p => ⟨[(2, .ptr 2 0), (3, .ptr 3 0), (4, .ptr 4 0), (5, .own 18 0 (a.length + b.length) (a.length + b.length)), (6, .one (ex (.int .i64 (i : Int)))), (7, .one (lb x)), (8, .one (ex (.int .u64 (p.1.2.2 : Int)))), (20, .one (mag a)), (21, .one (ex (.int .i64 (a.length : Int)))), (22, .one (ex (.int .i64 (i : Int)))), (28, .one (mag b)), (29, .one (ex (.int .i64 (b.length : Int)))), (30, .one (ex (.int .i64 (p.1.1 : Int))))], [(2, [ex (.bool s), mag a]), (3, [ex (.bool t), mag b]), (4, [ex (.bool false), ex (.slice none 0 0)]), (18, (Q.take i ++ (p.1.2.1 ++ ((Q.drop i).drop p.1.1 ++ List.replicate (a.length - i) 0))).map lb)]⟩) (fun p => b.length - p.1.1) ⟨(0, [], 0), Nat.zero_le _, MulInv.start _ _ _⟩ ?_ ?_
  ·have hz : (Q ++ List.replicate (a.length - i) 0).map lb = (Q.take i ++ ([] ++ ((Q.drop i).drop 0 ++ List.replicate (a.length - i) 0))).map lb := by
    rw [List.drop_zero, List.nil_append, ← List.append_assoc, List.take_append_drop]
   refine Sub.mk ?_ ⟨.inl ⟨_, jj, PsLe.refl _⟩, .inl ⟨_, jj, PsLe.refl _⟩, .inl ⟨_, jj, PsLe.refl _⟩, .inl ⟨_, jj, PsLe.of_eq hz⟩, trivial⟩
   repeat (first | exact trivial | refine jV jj ?_ | refine jw jj (js0 jj) ?_)
  rintro ⟨⟨j, N, c⟩, hj, hM⟩
  simp only at hj hM
  dsimp only
  obtain ⟨hNl, hNm, hcB, _⟩ := id hM
  have hti : (Q.take i).length = i := by simp; omega
  have hRl : (Q.drop i).length = b.length := by simp; omega
  have hRm := hQm.drop i
  have eij : IntKind.i64.wrap ((i : Int) + (j : Int)) = ((i + j : Nat) : Int) := by rw [w64 (by omega) (by omega)]; omega
  by_cases hjb : j < b.length
  ·obtain ⟨y, hy⟩ : ∃ y, b[j]? = some y := ⟨_, List.getElem?_eq_getElem hjb⟩
   obtain ⟨r, hr⟩ : ∃ r, (Q.drop i)[j]? = some r := ⟨_, List.getElem?_eq_getElem (by omega)⟩
   have hyB := hlb.get hy
   have hrB := hRm.get hr
   obtain ⟨m1, m2⟩ := dZA hcB hxB hyB hrB
   have hM' := MulInv.step hxB hRm hlb hy hr hM
   rw [aZ0] at hxB hyB hrB hcB m1
   have e2 : IntKind.u64.wrap (x : Int) = (x : Int) := wu64 (by omega) (by omega)
   have e4' : IntKind.u64.wrap (y : Int) = (y : Int) := wu64 (by omega) (by omega)
   have e5' : IntKind.u64.wrap ((x : Int) * (y : Int)) = ((x * y : Nat) : Int) := by rw [← Int.natCast_mul]; exact wu64 (by omega) (by omega)
   have e10 : IntKind.u64.wrap (r : Int) = (r : Int) := wu64 (by omega) (by omega)
   have e11 : IntKind.u64.wrap (((x * y : Nat) : Int) + (r : Int)) = ((x * y + r : Nat) : Int) := by rw [wu64 (by omega) (by omega)]; omega
   have e12 : IntKind.u64.wrap ((c : Int) + ((x * y + r : Nat) : Int)) = ((c + (x * y + r) : Nat) : Int) := by rw [wu64 (by omega) (by omega)]; omega
   have hdr : (Q.drop i).drop j = r :: (Q.drop i).drop (j + 1) := by rw [List.drop_eq_getElem_cons (by omega : j < (Q.drop i).length), (List.getElem?_eq_some_iff.1 hr).2]
   have hget : ((Q.take i ++ (N ++ ((Q.drop i).drop j ++ List.replicate (a.length - i) 0))).map lb)[i + j]? = some (lb r) := by
    refine getL ?_
    rw [List.getElem?_append_right (by omega), hti, List.getElem?_append_right (by omega), hNl, hdr, show i + j - i - j = 0 by omega]
    rfl
   have hidx : i + j < a.length + b.length := by omega
   have hsetl : i + j < ((Q.take i ++ (N ++ ((Q.drop i).drop j ++ List.replicate (a.length - i) 0))).map lb).length := by simp only [List.length_map, List.length_append, hti, hNl, List.length_drop, List.length_replicate]; omega
   have hset : ((Q.take i ++ (N ++ ((Q.drop i).drop j ++ List.replicate (a.length - i) 0))).map lb).set (i + j) (ex (.int .u32 (((c + (x * y + r)) % B : Nat) : Int))) = (Q.take i ++ ((N ++ [(c + (x * y + r)) % B]) ++ ((Q.drop i).drop (j + 1) ++ List.replicate (a.length - i) 0))).map lb := by
    rw [hdr]
    have := setL (Q.take i ++ N) ((Q.drop i).drop (j + 1) ++ List.replicate (a.length - i) 0) r ((c + (x * y + r)) % B)
    rw [List.length_append, hti, hNl] at this
    simp only [List.append_assoc, List.cons_append, List.nil_append] at this ⊢
    exact this
   have e16 : IntKind.i64.wrap ((j : Int) + 1) = ((j + 1 : Nat) : Int) := by rw [w64 (by omega) (by omega)]; omega
   refine js (jr (jS (bLt jj jj) (jn (js (jt jj (jp (js (jb (js (jr (jm jj (jS (aZv jj jj (by assumption)) (jS (aZf jj jj) (ja jj (ja jj (jn (js (jr (jm jj (jm jj (jS (bCv jj e2) (jm jj (jS (bCv jj e4') (jS (bMu jj jj e5') (jm jj (jm jj (jm jj (jS (bAd jj jj eij) (jS (aZ8 jj jj (by first | assumption | omega)) (jS (aZt jj jj (by assumption)) (jS (bCv jj e10) (jS (bAd jj jj e11) (jS (bAd jj jj e12) (ja jj (jn (js (jr (jm jj (jm jj (jm jj (jS (bAd jj jj eij) (jm jj (jS (bCv jj (u32w _)) (jS (aZ8 jj jj (by first | assumption | omega)) (jO (aZz jj jj jj (by assumption) (by assumption)) (jn ?_))))))))))))))))))))))))))))))))))))))))))))))
   refine jr (jm jj (jS (aZd jj jj (fun w => aZ5 w _ _ _ _ _ _ _ (by first | decide | omega | assumption)) (vint (fZi _))) (ja jj (jn (jr (jS (bAd jj jj e16) (jm jj (jn ?_))))))))
   refine ⟨⟨(j + 1, N ++ [(c + (x * y + r)) % B], (c + (x * y + r)) / B), hjb, hM'⟩, ?_, by simp only; omega⟩
   refine Sub.mk ?_ ?_ <;> repeat (first | exact trivial | refine jV jj ?_ | refine jy jj ?_ | refine jw jj (js0 jj) ?_)
  ·have hjb' : j = b.length := by omega
   subst hjb'
   have hdr : (Q.drop i).drop b.length = [] := List.drop_eq_nil_of_le (by omega)
   have hcw : ((c % B : Nat) : Int) = (c : Int) := by rw [Nat.mod_eq_of_lt hcB]
   have hidx : i + b.length < a.length + b.length := by omega
   have hsetl : i + b.length < ((Q.take i ++ (N ++ ((Q.drop i).drop b.length ++ List.replicate (a.length - i) 0))).map lb).length := by simp only [List.length_map, List.length_append, hti, hNl, List.length_drop, List.length_replicate]; omega
   have hset : ((Q.take i ++ (N ++ ((Q.drop i).drop b.length ++ List.replicate (a.length - i) 0))).map lb).set (i + b.length) (ex (.int .u32 (c : Int))) = ((Q.take i ++ N ++ [c]) ++ List.replicate (a.length - (i + 1)) 0).map lb := by
    rw [hdr, hrep]
    have := setL (Q.take i ++ N) (List.replicate (a.length - (i + 1)) 0) 0 c
    rw [List.length_append, hti, hNl] at this
    simp only [List.append_assoc, List.cons_append, List.nil_append] at this ⊢
    exact this
   refine js (jr (jS (bLf jj jj) (jn (js (jf jj (je (jr (jm jj (jm jj (jF jj jj (jl jj jj jj (jE jj (jS (bAd jj jj eij) (jm jj (jS (bCv jj ((u32w _).trans hcw)) (jS (aZ8 jj jj (by first | assumption | omega)) (jO (aZz jj jj jj (by assumption) (by assumption)) (jn (jr (jS (bAd jj jj e13) (jm jj (jn ?_))))))))))))))))))))))
   refine ⟨⟨(i + 1, Q.take i ++ N ++ [c]), hlt, hP.step hx hM⟩, ?_, by simp only; omega⟩
   refine Sub.mk ?_ ?_ <;> repeat (first | exact trivial | refine jV jj ?_ | refine jy jj ?_ | refine jw jj (js0 jj) ?_)
 ·have hia : i = a.length := by omega
  subst hia
  obtain ⟨d1, d2⟩ := hP.done
  have C1 := kZc En (s != t) Q (by omega)
  rw [show zv (s != t) Q = zv s a * zv t b by unfold zv; rw [d2, hZh]] at C1
  rw [Nat.sub_self, List.replicate_zero, List.append_nil]
  refine js (jr (jS (bLf jj jj) (jn (js (jf jj (je (js ?_)))))))
  refine WpD.sub (τ := ⟨[(2, .ptr 2 0), (3, .ptr 3 0), (4, .ptr 4 0), (5, .one (mag Q))], [(2, [ex (.bool s), mag a]), (3, [ex (.bool t), mag b]), (4, [ex (.bool false), ex (.slice none 0 0)])]⟩) ?_ ?_
  ·refine Sub.pub 18 rfl rfl ?_ ?_ rfl
   ·repeat (first | exact trivial | refine ⟨.inl ⟨⟨_, rfl, PLe.refl _⟩, trivial⟩, ?_⟩ | refine ⟨.inl ⟨⟨_, rfl, rfl⟩, Option.some_ne_none _⟩, ?_⟩ | refine ⟨.inl ⟨⟨_, rfl, rfl⟩, ⟨Option.some_ne_none _, Option.some_ne_none _⟩⟩, ?_⟩ | refine ⟨.inr (.inl ⟨_, _, _, _, rfl, rfl, by rw [← hQl]; exact bZh (Nat.le_refl _) d1⟩), ?_⟩ | refine ⟨.inr (.inr (.inl ⟨_, _, _, rfl, rfl, by rw [← hQl]; exact bZh (Nat.le_refl _) d1⟩)), ?_⟩)
   ·repeat (first | exact trivial | refine jz ?_ | refine jy rfl ?_)
  repeat (first | apply js | apply jb)
  refine jr (jF jj jj (jl jj jj jj (jF jj jj (jl jj jj jj (jS (aZu jj jj (fun w => bZz w CBool.ok _ _ _ _)) (jm jj (jS (aZa C1 ⟨jj, jj, trivial⟩) (jP jj jj jj jj (jn (ji ?_))))))))))
  exact rtC rfl jj jj
theorem zquo (s : Bool) (l : List Nat) (s' : Bool) (l' : List Nat) (hl : l.length ≤ 536870912) (hl' : l'.length ≤ 536870912) (hlm : Lm l) (hlm' : Lm l') (hy : zv s' l' ≠ 0) :
  Fn Tryz.prog En 122 [zR s l, zR s' l'] (zC (zv s l / zv s' l')) := by
 have C1 := kZe En s l s' l' hl hl' hlm hlm' hy
 refine aZb Tryz.func122 rfl Tryz.ntmps122 rfl ?_
 intro w0 h0
 refine js (jr (jB jj jj jj (jB jj jj jj (jA jj jj jj (jn (js (jr (jL jj jj jj (jL jj jj jj (jS (aZa C1 ⟨jj, jj, trivial⟩) (jm jj (jx' jj jj (jx' jj jj (jx' jj jj (jA jj jj jj (jA jj jj jj (jP jj jj jj jj (jP jj jj jj jj (ja jj (jn (js (jr (jL jj jj jj (jP jj jj jj jj (jn (ji ?_))))))))))))))))))))))))))
 exact rtC rfl jj jj
theorem mZs {z : Int} (h : z ≠ 0) : sg3 z ≠ 0 := by unfold sg3; rw [if_neg h]; split <;> decide
set_option maxHeartbeats 1000000 in
theorem zgcd (s : Bool) (l : List Nat) (s' : Bool) (l' : List Nat) (hl : Lm l) (hl' : Lm l') (hlen : l.length ≤ 536870912) (hlen' : l'.length ≤ 536870912) :
  Fn Tryz.prog En 121 [zR s l, zR s' l'] (zC (Nat.gcd (zv s l).natAbs (zv s' l').natAbs : Nat)) := by
 have C1 := fabs En s l (by omega)
 have C2 := fabs En s' l' (by omega)
 have D1 := eZ3 s hl
 have D2 := eZ3 s' hl'
 unfold zl at D1 D2
 refine aZb Tryz.func121 rfl Tryz.ntmps121 rfl ?_
 intro w0 h0
 refine js (jr (jB jj jj jj (jB jj jj jj (jA jj jj jj (jn (js (jr (jL jj jj jj (jS (aZa C1 ⟨jj, trivial⟩) (jL jj jj jj (jS (aZa C2 ⟨jj, trivial⟩) (jA jj jj jj (jA jj jj jj (jP jj jj jj jj (jP jj jj jj jj (jn (js (jb ?_))))))))))))))))))
 refine WpD.loop (α := {p : Nat × Nat // Nat.gcd p.1 p.2 = Nat.gcd (zv s l).natAbs (zv s' l').natAbs ∧ (digs p.1).length ≤ 536870912 ∧ (digs p.2).length ≤ 536870912})
  (fun p => ⟨[(4, .ptr 4 0), (5, .ptr 5 0), (6, .ptr 6 0)], [(4, [ex (.bool false), ex (.slice none 0 0)]), (5, dZ8 p.1.1), (6, dZ8 p.1.2)]⟩) (fun p => p.1.2) ⟨((zv s l).natAbs, (zv s' l').natAbs), rfl, by dsimp only; omega, by dsimp only; omega⟩ ?_ ?_
 ·refine Sub.mk ?_ ?_ <;> repeat (first | exact trivial | refine jV jj ?_ | refine jy jj ?_ | refine jw jj (js0 jj) ?_)
 rintro ⟨⟨x, y⟩, hg, hx, hy⟩
 dsimp only at hg hx hy ⊢
 have C3 := csign En (y : Int) (Nat.le_trans hy (by omega))
 by_cases hy0 : y = 0
 ·subst hy0
  have hgx : x = Nat.gcd (zv s l).natAbs (zv s' l').natAbs := by rw [← hg]; simp
  rw [← hgx]
  have h0 : sg3 ((0 : Nat) : Int) = 0 := rfl
  refine js (js (jr (jL jj jj jj (jS (aZa C3 ⟨jj, trivial⟩) (jS (bNf jj jj) (jn (jf jj (je (js (jr (jL jj jj jj (jP jj jj jj jj (jn (ji ?_))))))))))))))
  exact rtC rfl jj jj
 ·have h0 : sg3 ((y : Nat) : Int) ≠ 0 := mZs (by omega)
  have C4 := crem En (x : Int) (y : Int) hx hy (by omega)
  rw [show (x : Int) % (y : Int) = ((x % y : Nat) : Int) from rfl] at C4
  have hlt := Nat.mod_lt x (Nat.pos_of_ne_zero hy0)
  refine js (js (jr (jL jj jj jj (jS (aZa C3 ⟨jj, trivial⟩) (jS (bNt jj jj) (jn (jt jj (jp (jb (jr (jL jj jj jj (jL jj jj jj (jL jj jj jj (jS (aZa C4 ⟨jj, jj, trivial⟩) (jP jj jj jj jj (jP jj jj jj jj (jn ?_)))))))))))))))))
  refine ⟨⟨(y, x % y), by dsimp only; rw [← hg, Nat.gcd_comm x y, Nat.gcd_rec y x, Nat.gcd_comm], hy, Nat.le_trans (aZG (Nat.le_of_lt hlt)) hy⟩, ?_, hlt⟩
  refine Sub.mk ?_ ?_ <;> repeat (first | exact trivial | refine jV jj ?_ | refine jy jj ?_ | refine jw jj (js0 jj) ?_)
theorem zpow (s : Bool) (l : List Nat) (n : Nat) (hl : Lm l) (hlen : l.length ≤ 8388608) (hn : n ≤ 64) :
  Fn Tryz.prog En 114 [zR s l, ex (.int .i64 (n : Int))] (tupP [zC (zv s l ^ n), ex (.bool true)]) := by
 have C1 := eZR En 1 (by omega) (by omega)
 have D1 := eZ3 s hl
 refine aZb Tryz.func114 rfl Tryz.ntmps114 rfl ?_
 intro w0 h0
 refine js (jr (jB jj jj jj (jA jj jj jj (ja jj (jn (js (js (jr (jm jj (jS (bLf jj jj) (jm jj (jgm jj (jg (bGf jj jj) (jQ jj jj (jn (jf jj (jp (js (jr (jS (aZa C1 ⟨jj, trivial⟩) (jA jj jj jj (jP jj jj jj jj (jn (js (js (jr (ja jj (jn (jb ?_)))))))))))))))))))))))))))))
 refine WpD.loop (α := {p : Nat // p ≤ n ∧ zl (zv s l ^ p) ≤ p * 8388608 + 1}) (fun p => ⟨[(1, .one (ex (.int .i64 (n : Int)))), (2, .ptr 2 0), (4, .ptr 4 0), (6, .ptr 6 0), (7, .one (ex (.int .i64 (p.1 : Int))))], [(2, [ex (.bool s), mag l]), (4, [ex (.bool false), ex (.slice none 0 0)]), (6, dZ8 (zv s l ^ p.1))]⟩) (fun p => n - p.1) ⟨0, Nat.zero_le _, by rw [Int.pow_zero]; decide⟩ ?_ ?_
 ·dsimp only
  rw [Int.pow_zero]
  refine Sub.mk ?_ ?_ <;> repeat (first | exact trivial | refine jV jj ?_ | refine jy jj ?_ | refine jw jj (js0 jj) ?_)
 rintro ⟨i, hi, hz⟩
 dsimp only at hi hz ⊢
 by_cases hlt : i < n
 ·have e6 := wS i (by omega)
  have hmm : i * 8388608 ≤ 536870912 := by omega
  have hz2 : (digs (zv s l ^ i).natAbs).length ≤ 1073741824 := by unfold zl at hz; omega
  have C2 := zmul En (decide (zv s l ^ i < 0)) (digs (zv s l ^ i).natAbs) s l (aZk _) hl hz2 (by omega)
  rw [zv_C, ← Int.pow_succ] at C2
  have hz' : zl (zv s l ^ (i + 1)) ≤ (i + 1) * 8388608 + 1 := by
   have := bZw (zv s l ^ i) (zv s l)
   rw [Int.pow_succ]; omega
  refine js (js (jr (jm jj (jm jj (jS (bLt jj jj) (jn (jt jj (jp (js (jb (jr (jL jj jj jj (jL jj jj jj (jS (aZa C2 ⟨jj, jj, trivial⟩) (jP jj jj jj jj (jn (jr (jm jj (jS (bAd jj jj e6) (ja jj (jn ?_)))))))))))))))))))))
  refine ⟨⟨i + 1, by omega, hz'⟩, ?_, by dsimp only; omega⟩
  refine Sub.mk ?_ ?_ <;> repeat (first | exact trivial | refine jV jj ?_ | refine jy jj ?_ | refine jw jj (js0 jj) ?_)
 ·have : i = n := by omega
  subst this
  refine js (js (jr (jm jj (jm jj (jS (bLf jj jj) (jn (jf jj (je (js (jr (jL jj jj jj (jP jj jj jj jj (ja jj (jn (ji ?_)))))))))))))))
  exact rtD rfl jj jj jj
end
end Go.Proofs.YtdieokoenhncfaaGreatDoor
/- Integers of the program: Neg, Add, Sub, Gcd. -/
namespace Go.Proofs.YtdieokoenhncfaaGreatDoor
open Go.RowKit Limb
instance cbody102 : CBody Tryz.prog 102 := ⟨⟨_, Tryz.func102, rfl, by rfl⟩⟩
instance cbody166 : CBody Tryz.prog 166 := ⟨⟨_, Tryz.func166, rfl, by rfl⟩⟩
instance cbody172 : CBody Tryz.prog 172 := ⟨⟨_, Tryz.func172, rfl, by rfl⟩⟩
instance cbody139 : CBody Tryz.prog 139 := ⟨⟨_, Tryz.func139, rfl, by rfl⟩⟩
instance cbody101 : CBody Tryz.prog 101 := ⟨⟨_, Tryz.func101, rfl, by rfl⟩⟩
theorem kZO (s : Bool) (x y : Nat) : sgnZ s x + sgnZ s y = sgnZ s (x + y) := by unfold sgnZ; cases s <;> simp <;> omega
theorem kZL {s : Bool} {x y : Nat} (h : y ≤ x) : sgnZ s x + sgnZ (!s) y = sgnZ s (x - y) := by unfold sgnZ; cases s <;> simp <;> omega
theorem iZY {s : Bool} {x y : Nat} (h : x ≤ y) : sgnZ s x + sgnZ (!s) y = sgnZ (!s) (y - x) := by unfold sgnZ; cases s <;> simp <;> omega
theorem kZM (s : Bool) (x : Nat) : sgnZ (!s) x = -sgnZ s x := by unfold sgnZ; cases s <;> simp
section
variable (En : Ev)
theorem iaddS (s : Bool) (x : Nat) (t : Bool) (y : Nat) (hx : (digs x).length ≤ 274877906944) (hy : (digs y).length ≤ 274877906944) :
  Fn Tryz.prog En 172 [ex (.bool s), mag (digs x), ex (.bool t), mag (digs y)] (zC (sgnZ s x + sgnZ t y)) := by
 by_cases hst : s = t
 ·subst hst
  rw [kZO]
  have C1 := nadd En (digs x) (digs y) (by omega) (by omega) (aZk _) (aZk _)
  rw [aZq, aZq] at C1
  have hb : (s == s) = true := by simp
  refine aZb Tryz.func172 rfl Tryz.ntmps172 rfl ?_
  intro w0 h0
  refine js (jr (jA jj jj jj (jn (js (jb (js (jr (jm jj (jm jj (jS (aZd jj jj (fun w => bZg w CBool.ok _ _ _ _) (aZm hb)) (ja jj (jn (jt jj (js (jr (jm jj (jm jj (jm jj (jS (aZa C1 ⟨jj, jj, trivial⟩) (jS (aZa (bZN En s (x + y)) ⟨jj, jj, trivial⟩) (jP jj jj jj jj (jn (ji ?_)))))))))))))))))))))))
  exact rtC rfl jj jj
 ·have ht : t = !s := by cases s <;> cases t <;> simp_all
  subst ht
  have hb : (s == !s) = false := by simp
  have C0 := cZC En (digs x) (digs y) (by omega) (aZk _) (aZk _)
  rw [bZ6] at C0
  by_cases h : y ≤ x
  ·rw [kZL h]
   have C1 := nsub En (digs x) (digs y) (by omega) (aZG h) (aZk _) (aZk _) (by rw [aZq, aZq]; exact h)
   rw [aZq, aZq] at C1
   have hc : (if x < y then -1 else if y < x then 1 else 0 : Int) ≥ 0 := by repeat' split <;> omega
   refine aZb Tryz.func172 rfl Tryz.ntmps172 rfl ?_
   intro w0 h0
   refine js (jr (jA jj jj jj (jn (js (jb (js (jr (jm jj (jm jj (jS (aZd jj jj (fun w => bZg w CBool.ok _ _ _ _) (aZm hb)) (ja jj (jn (jf jj (js (jr (jm jj (jm jj (jS (aZa C0 ⟨jj, jj, trivial⟩) (jS (bHt jj jj) (ja jj (jn (jt jj (js (jr (jm jj (jm jj (jm jj (jS (aZa C1 ⟨jj, jj, trivial⟩) (jS (aZa (bZN En s (x - y)) ⟨jj, jj, trivial⟩) (jP jj jj jj jj (jn (ji ?_))))))))))))))))))))))))))))))))
   exact rtC rfl jj jj
  ·rw [iZY (by omega)]
   have C1 := nsub En (digs y) (digs x) (by omega) (aZG (by omega)) (aZk _) (aZk _) (by rw [aZq, aZq]; omega)
   rw [aZq, aZq] at C1
   have hc : ¬ (if x < y then -1 else if y < x then 1 else 0 : Int) ≥ 0 := by rw [if_pos (by omega)]; omega
   refine aZb Tryz.func172 rfl Tryz.ntmps172 rfl ?_
   intro w0 h0
   refine js (jr (jA jj jj jj (jn (js (jb (js (jr (jm jj (jm jj (jS (aZd jj jj (fun w => bZg w CBool.ok _ _ _ _) (aZm hb)) (ja jj (jn (jf jj (js (jr (jm jj (jm jj (jS (aZa C0 ⟨jj, jj, trivial⟩) (jS (bHf jj jj) (ja jj (jn (jf jj (jp (js (jr (jm jj (jm jj (jm jj (jS (aZa C1 ⟨jj, jj, trivial⟩) (jS (aZa (bZN En (!s) (y - x)) ⟨jj, jj, trivial⟩) (jP jj jj jj jj (jn (ji ?_)))))))))))))))))))))))))))))))))
   exact rtC rfl jj jj
theorem ineg (s : Bool) (l : List Nat) (hl : Lm l) (hlen : l.length ≤ 274877906944) : Fn Tryz.prog En 102 [zR s l] (zC (-(zv s l))) := by
 have C1 := bZL En l hl (by omega)
 have D1 := aZZ hlen hl
 unfold zv
 generalize val l = x at *
 rw [← kZM]
 refine aZb Tryz.func102 rfl Tryz.ntmps102 rfl ?_
 intro w0 h0
 refine js (jr (jB jj jj jj (jA jj jj jj (jn (js (jr (jF jj jj (jl jj jj jj (jS (bNo jj) (jF jj jj (jl jj jj jj (jS (aZa C1 ⟨jj, trivial⟩) (jS (aZa (hZ5 En (digs x) (aZk _) (by omega)) ⟨jj, trivial⟩) (jS (aZa (bZN En (!s) x) ⟨jj, jj, trivial⟩) (jP jj jj jj jj (jn (ji ?_)))))))))))))))))
 exact rtC rfl jj jj
theorem iadd (s : Bool) (l : List Nat) (s' : Bool) (l' : List Nat) (hl : Lm l) (hl' : Lm l') (hlen : l.length ≤ 274877906944) (hlen' : l'.length ≤ 274877906944) :
  Fn Tryz.prog En 166 [zR s l, zR s' l'] (zC (zv s l + zv s' l')) := by
 have C1 := bZL En l hl (by omega)
 have C2 := bZL En l' hl' (by omega)
 have D1 := aZZ hlen hl
 have D2 := aZZ hlen' hl'
 unfold zv
 refine aZb Tryz.func166 rfl Tryz.ntmps166 rfl ?_
 intro w0 h0
 refine js (jr (jB jj jj jj (jB jj jj jj (jA jj jj jj (jn (js (jr (jF jj jj (jl jj jj jj (jF jj jj (jl jj jj jj (jS (aZa C1 ⟨jj, trivial⟩) (jF jj jj (jl jj jj jj (jF jj jj (jl jj jj jj (jS (aZa C2 ⟨jj, trivial⟩) (jS (aZa (iaddS En s _ s' _ D1 D2) ⟨jj, jj, jj, jj, trivial⟩) (jP jj jj jj jj (jn (ji ?_)))))))))))))))))))))
 exact rtC rfl jj jj
theorem hZK (u v : Nat) : Nat.gcd v (u % v) = Nat.gcd u v := by rw [Nat.gcd_comm v, ← Nat.gcd_rec, Nat.gcd_comm]
theorem digs0 {v : Nat} : (digs v).length = 0 ↔ v = 0 := by
 constructor
 ·intro h
  by_cases hv : v = 0
  ·exact hv
  ·rw [aZF hv] at h; simp at h
 ·rintro rfl; rfl
set_option maxHeartbeats 1000000 in
theorem ngcd (x y : Nat) (hx : (digs x).length ≤ 274877906944) (hy : (digs y).length ≤ 274877906944) : Fn Tryz.prog En 139 [mag (digs x), mag (digs y)] (mag (digs (Nat.gcd x y))) := by
 refine aZb Tryz.func139 rfl Tryz.ntmps139 rfl ?_
 intro w0 h0
 refine js (jr (ja jj (jn (js (jb ?_)))))
 refine WpD.loop (α := {p : Nat × Nat // Nat.gcd p.1 p.2 = Nat.gcd x y ∧ (digs p.1).length ≤ 274877906944 ∧ (digs p.2).length ≤ 274877906944}) (fun p => ⟨[(0, .one (mag (digs p.1.1))), (1, .one (mag (digs p.1.2)))], []⟩) (fun p => p.1.2) ⟨(x, y), rfl, hx, hy⟩ ?_ ?_
 ·refine Sub.mk ?_ ?_ <;> repeat (first | exact trivial | refine jV jj ?_ | refine jy jj ?_ | refine jw jj (js0 jj) ?_)
 rintro ⟨⟨u, v⟩, hg, hu, hv⟩
 dsimp only at hg hu hv ⊢
 have next : v ≠ 0 → ∃ p : {p : Nat × Nat // Nat.gcd p.1 p.2 = Nat.gcd x y ∧ (digs p.1).length ≤ 274877906944 ∧ (digs p.2).length ≤ 274877906944}, p.1 = (v, u % v) ∧ u % v < v := fun hv0 => by
  have hlt := Nat.mod_lt u (Nat.pos_of_ne_zero hv0)
  exact ⟨⟨(v, u % v), by rw [hZK]; exact hg, hv, Nat.le_trans (aZG (Nat.le_of_lt hlt)) hv⟩, rfl, hlt⟩
 have C4 := fun hv0 : v ≠ 0 => ndiv En u v (by omega) hv0
 unfold DivP at C4
 by_cases h1 : (digs u).length > 2
 ·by_cases h3 : (digs v).length = 0
  ·have hv0 := digs0.1 h3
   subst hv0
   have : u = Nat.gcd x y := by simpa using hg
   rw [← this]
   refine js (js (jr (jm jj (jE jj (jS (bGt jj jj) (jm jj (jk (jk (jk (jq jj jj (jn (jt jj (jp (jb (js (js (jr (jm jj (jE jj (jS (bEt jj jj) (jn (jt jj (js (jr (jm jj (jS (aZa (hZ5 En (digs u) (aZk _) (by omega)) ⟨jj, trivial⟩) (ja jj (jn (ji ?_)))))))))))))))))))))))))))))
   exact rtT rfl jj
  ·have hv0 : v ≠ 0 := fun h => h3 (digs0.2 h)
   obtain ⟨p, hp, hlt⟩ := next hv0
   have C5 := C4 hv0
   refine js (js (jr (jm jj (jE jj (jS (bGt jj jj) (jm jj (jk (jk (jk (jq jj jj (jn (jt jj (jp (jb (js (js (jr (jm jj (jE jj (jS (bEf jj jj) (jn (jf jj (jp (js (jr (jm jj (jm jj (jS (aZa C5 ⟨jj, jj, trivial⟩) (jm jj (jx' jj jj (jx' jj jj (ja jj (ja jj (jn (jr (jm jj (jm jj (ja jj (ja jj (jn ?_))))))))))))))))))))))))))))))))))))))))
   refine ⟨p, ?_, by rw [hp]; exact hlt⟩
   rw [hp]
   refine Sub.mk ?_ ?_ <;> repeat (first | exact trivial | refine jV jj ?_ | refine jy jj ?_ | refine jw jj (js0 jj) ?_)
 ·by_cases h2 : (digs v).length > 2
  ·have hv0 : v ≠ 0 := fun h => by rw [digs0.2 h] at h2; omega
   obtain ⟨p, hp, hlt⟩ := next hv0
   have C5 := C4 hv0
   refine js (js (jr (jm jj (jE jj (jS (bGf jj jj) (jm jj (jgm jj (jg (bZd jj CSlice.ok) (jg (bGt jj jj) (jQ jj jj (jn (jt jj (jp (jb (js (js (jr (jm jj (jE jj (jS (bEf jj jj) (jn (jf jj (jp (js (jr (jm jj (jm jj (jS (aZa C5 ⟨jj, jj, trivial⟩) (jm jj (jx' jj jj (jx' jj jj (ja jj (ja jj (jn (jr (jm jj (jm jj (ja jj (ja jj (jn ?_))))))))))))))))))))))))))))))))))))))))
   refine ⟨p, ?_, by rw [hp]; exact hlt⟩
   rw [hp]
   refine Sub.mk ?_ ?_ <;> repeat (first | exact trivial | refine jV jj ?_ | refine jy jj ?_ | refine jw jj (js0 jj) ?_)
  ·have W1 := iZx En (digs u) (aZk _) (by omega)
   have W2 := iZx En (digs v) (aZk _) (by omega)
   rw [aZq] at W1 W2
   have hu64 : u < 18446744073709551616 := by have := bZp (aZk u); rw [aZq] at this; exact Nat.lt_of_lt_of_le this (Nat.le_trans (Nat.pow_le_pow_right aZI (show _ ≤ 2 by omega)) (by rw [aZ0]; decide))
   have hv64 : v < 18446744073709551616 := by have := bZp (aZk v); rw [aZq] at this; exact Nat.lt_of_lt_of_le this (Nat.le_trans (Nat.pow_le_pow_right aZI (show _ ≤ 2 by omega)) (by rw [aZ0]; decide))
   refine js (js (jr (jm jj (jE jj (jS (bGf jj jj) (jm jj (jgm jj (jg (bZd jj CSlice.ok) (jg (bGf jj jj) (jQ jj jj (jn (jf jj (je (js (jr (jm jj (jS (aZa W1 ⟨jj, trivial⟩) (jm jj (jS (aZa W2 ⟨jj, trivial⟩) (ja jj (ja jj (jn (js (jb ?_))))))))))))))))))))))))
   refine WpD.loop (α := {p : Nat × Nat // Nat.gcd p.1 p.2 = Nat.gcd x y ∧ p.1 < 18446744073709551616 ∧ p.2 < 18446744073709551616}) (fun p => ⟨[(7, .one (ex (.int .u64 (p.1.1 : Nat)))), (8, .one (ex (.int .u64 (p.1.2 : Nat))))], []⟩) (fun p => p.1.2) ⟨(u, v), hg, hu64, hv64⟩ ?_ ?_
   ·refine Sub.mk ?_ ?_ <;> repeat (first | exact trivial | refine jV jj ?_ | refine jy jj ?_ | refine jw jj (js0 jj) ?_)
   rintro ⟨⟨p, q⟩, hpq, hp, hq⟩
   dsimp only at hpq hp hq ⊢
   by_cases hq0 : q = 0
   ·subst hq0
    have e : p = Nat.gcd x y := by simpa using hpq
    have C6 := bZI En p hp
    rw [← e]
    refine js (js (jr (jm jj (jS (bNf jj jj) (jn (jf jj (je (js (jr (jm jj (jS (aZa C6 ⟨jj, trivial⟩) (ja jj (jn (ji ?_))))))))))))))
    exact rtT rfl jj
   ·have hlt := Nat.mod_lt p (Nat.pos_of_ne_zero hq0)
    have e8 : ((p : Nat) : Int).tmod (q : Nat) = ((p % q : Nat) : Int) := (Int.ofNat_tmod p q).symm
    have hne : ((q : Nat) : Int) ≠ 0 := by omega
    refine js (js (jr (jm jj (jS (bNt jj jj) (jn (jt jj (jp (jb (jr (jm jj (jm jj (jm jj (jS (bRe jj jj e8) (ja jj (ja jj (jn ?_))))))))))))))))
    refine ⟨⟨(q, p % q), by rw [hZK]; exact hpq, hq, Nat.lt_trans hlt hq⟩, ?_, hlt⟩
    refine Sub.mk ?_ ?_ <;> repeat (first | exact trivial | refine jV jj ?_ | refine jy jj ?_ | refine jw jj (js0 jj) ?_)
theorem igcd (s : Bool) (l : List Nat) (s' : Bool) (l' : List Nat) (hl : Lm l) (hl' : Lm l') (hlen : l.length ≤ 274877906944) (hlen' : l'.length ≤ 274877906944) :
  Fn Tryz.prog En 101 [zR s l, zR s' l'] (zC (Nat.gcd (zv s l).natAbs (zv s' l').natAbs : Nat)) := by
 have C1 := bZL En l hl (by omega)
 have C2 := bZL En l' hl' (by omega)
 have D1 := aZZ hlen hl
 have D2 := aZZ hlen' hl'
 rw [gZW, gZW]
 have C4 := bZN En false (Nat.gcd (val l) (val l'))
 rw [show sgnZ false (Nat.gcd (val l) (val l')) = ((Nat.gcd (val l) (val l') : Nat) : Int) from rfl] at C4
 refine aZb Tryz.func101 rfl Tryz.ntmps101 rfl ?_
 intro w0 h0
 refine js (jr (jB jj jj jj (jB jj jj jj (jA jj jj jj (jn (js (jr (jF jj jj (jl jj jj jj (jS (aZa C1 ⟨jj, trivial⟩) (jF jj jj (jl jj jj jj (jS (aZa C2 ⟨jj, trivial⟩) (jS (aZa (ngcd En _ _ D1 D2) ⟨jj, jj, trivial⟩) (jS (aZa C4 ⟨jj, jj, trivial⟩) (jP jj jj jj jj (jn (ji ?_))))))))))))))))))
 exact rtC rfl jj jj
end
end Go.Proofs.YtdieokoenhncfaaGreatDoor

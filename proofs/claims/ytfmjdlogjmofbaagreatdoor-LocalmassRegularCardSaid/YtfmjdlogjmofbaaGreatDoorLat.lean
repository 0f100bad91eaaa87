/- Selections, leading minors, definite matrices, conversions. -/
import Derived.Test.YtfmjdlogjmofbaaGreatDoorMem
import Derived.Test.YtfmjdlogjmofbaaGreatDoorGd
import Derived.Test.YtfmjdlogjmofbaaGreatDoorElim
import Derived.Test.YtfmjdlogjmofbaaGreatDoorW
set_option maxRecDepth 3000
namespace Go.Proofs.YtfmjdlogjmofbaaGreatDoor
open Go.RowKit Limb Det
instance cslice_ix : CSlice Tryz.prog 193 3 := ⟨Tryz.underlying193⟩
instance celem_ix : CElem Tryz.prog 193 3 1 := ⟨Tryz.underlying193, by kernel_rfl⟩
instance cone_ix : COne Tryz.prog 193 := ⟨⟨_, Tryz.underlying193, rfl, by kernel_rfl⟩⟩
instance crowz_ix : CRowZ Tryz.prog 3 1 [.int .i64 0] 8 := ⟨by kernel_rfl, rfl, rfl⟩
instance cbody155 : CBody Tryz.prog 155 := ⟨⟨_, Tryz.func155, rfl, by rfl⟩⟩
instance cbody110 : CBody Tryz.prog 110 := ⟨⟨_, Tryz.func110, rfl, by rfl⟩⟩
instance cbody105 : CBody Tryz.prog 105 := ⟨⟨_, Tryz.func105, rfl, by rfl⟩⟩
instance cbody106 : CBody Tryz.prog 106 := ⟨⟨_, Tryz.func106, rfl, by rfl⟩⟩
instance cbody46 : CBody Tryz.prog 46 := ⟨⟨_, Tryz.func46, rfl, by rfl⟩⟩
instance cbody52 : CBody Tryz.prog 52 := ⟨⟨_, Tryz.func52, rfl, by rfl⟩⟩
def cZK (r : Nat → Nat) (n : Nat) : List Pd := outL (fun a => ex (.int .i64 ((r a : Nat) : Int))) n
def isl (r : Nat → Nat) (n : Nat) : Pd := slc 1 (cZK r n) n
instance (r : Nat → Nat) (n : Nat) : CLen (isl r n) n := by unfold isl; exact inferInstance
instance (r : Nat → Nat) (n : Nat) : C1 (isl r n) := by unfold isl; exact inferInstance
theorem dZM {A B : Nat → Nat → Int} {n m : Nat} (h : ∀ i j, i < n → j < m → A i j = B i j) : zmt A n m = zmt B n m := by
 unfold zmt cmt
 rw [aZu (g' := fun i => slc 2 (rowL (fun c => aZL (B i c)) m) m) fun i hi => by rw [aZG (e' := fun c => aZL (B i c)) fun j hj => by show aZL _ = aZL _; rw [h i j hi hj]]]
theorem bZI (r : Nat → Nat) (n : Nat) : (cZK r n).length = n * 1 := by rw [Nat.mul_one]; exact bZc ..
theorem kZa {r : Nat → Nat} {n i : Nat} (h : i < n) : ((cZK r n).drop (i * 1)).take 1 = [ex (.int .i64 ((r i : Nat) : Int))] := bZT (e := fun a => [ex (.int .i64 ((r a : Nat) : Int))]) (fun _ _ => rfl) h
def fstN (k more : Nat) : Nat → Nat := fun a => if a < k then a else more
section
variable (En : Ev)
theorem mfirst (k more : Nat) (hk : k ≤ 8) : Fn Tryz.prog En 155 [ex (.int .i64 (k : Int)), ex (.int .i64 (more : Int))] (isl (fstN k more) (k + 1)) := by
 refine aZb Tryz.func155 rfl Tryz.ntmps155 rfl ?_
 intro w0 h0
 refine js<|jr<|ja jj<|jn<|js<|jr<|ja jj<|jn<|js<|js<|jr<|ja jj<|jn<|jb ?_
 refine WpD.loop (α := {i : Nat // i ≤ k}) (fun i => ⟨[(0, .one (ex (.int .i64 (k : Int)))), (1, .one (ex (.int .i64 (more : Int)))), (5, .app 505 1 i.1), (6, .one (ex (.int .i64 (i.1 : Int))))], [(505, cZK (fun a => a) i.1), (755, [])]⟩) (fun i => k - i.1) ⟨0, Nat.zero_le _⟩ ?_ ?_
 ·dsimp only
  exact Sub.mk sJ ⟨.inr jj, .inr jj, trivial⟩
 rintro ⟨i, hi⟩
 dsimp only
 by_cases hin : i < k
 ·refine js<|js<|jr<|jm jj<|jm jj<|jS (bLt jj jj)<|jn<|jt jj<|jp<|js<|jb<|jr<|jm jj<|jm jj<|jS (aZ5 (ps := [(_, _)]) ⟨jj, Part.c jj, trivial⟩ jj jj jj)<|RG.SW (LT.plain jj (aZD 515 jj jj ((bZI _ _)) jj oM oM jj jj jj jj jj jj)) jj<|ja jj<|jn<|jr<|jm jj<|jS (bAd jj jj wO)<|ja jj<|jn ?_
  refine ⟨⟨i + 1, oM⟩, ?_, oD⟩
  dsimp only
  refine Sub.ren 505 515 rfl ?_ ?_ rfl
  ·repeat (first | exact trivial | refine ⟨.inl ⟨pK, trivial, trivial⟩, ?_⟩ | refine ⟨.inr ⟨_, _, rfl, .inl rfl, ⟨Option.some_ne_none _, Option.some_ne_none _⟩⟩, ?_⟩ | refine ⟨.inl ⟨⟨_, rfl, rfl⟩, Option.some_ne_none _, ⟨aD, aD⟩⟩, ?_⟩ | refine ⟨.inl ⟨⟨_, rfl, rfl⟩, ⟨Option.some_ne_none _, Option.some_ne_none _⟩, ⟨aD, aD, aD, aD⟩⟩, ?_⟩ | refine ⟨.inl ⟨⟨_, rfl, rfl⟩, cZo (Option.some_ne_none _) (Option.some_ne_none _), bZK aD aD aD aD⟩, ?_⟩ | refine ⟨.inr ⟨_, _, rfl, .inr ⟨oM, rfl⟩, Option.some_ne_none _⟩, ?_⟩)
  ·repeat (first | exact trivial | refine ⟨.inr ⟨aD, .inr rfl⟩, ?_⟩ | refine ⟨.inl ⟨rfl, _, rfl, PsLe.refl _⟩, ?_⟩ | refine ⟨.inr ⟨aD, .inl ⟨aD, _, rfl, PsLe.refl _⟩⟩, ?_⟩)
 ·have e : i = k := oM
  subst e
  refine js<|js<|jr<|jm jj<|jm jj<|jS (bLf jj jj)<|jn<|jf jj<|je<|js ?_
  refine kO ?_
  refine jr<|jm jj<|jm jj<|jS (aZ5 (ps := [(_, _)]) ⟨jj, Part.c jj, trivial⟩ jj jj jj)<|RG.SW (LT.plain jj (aZD 519 jj jj ((bZI _ _)) jj oM oM jj jj jj jj jj jj)) jj<|ja jj<|jn ?_
  refine WpD.sub (τ := ⟨[(4, .one (isl (fstN i more) (i + 1)))], []⟩) ?_ ?_
  ·refine Sub.pub 519 rfl rfl ⟨.inr (.inr (.inl ⟨1, i + 1, _, rfl, rfl, ?_, ?_⟩)), trivial⟩ trivial rfl
   ·show (cZK _ i ++ [_]).length = _
    rw [List.length_append, bZI]; simp
   ·have : cZK (fun a => a) i ++ [ex (.int .i64 (more : Int))] = cZK (fstN i more) (i + 1) := by
     unfold cZK
     rw [outL, outL, rowL]
     rw [aZG (e' := fun a => [ex (.int .i64 ((fstN i more a : Nat) : Int))]) fun a ha => by unfold fstN; rw [if_pos ha]]
     unfold fstN
     rw [if_neg (Nat.lt_irrefl i)]
    show PLe (slc 1 (cZK (fun a => a) i ++ [ex (.int .i64 (more : Int))]) (i + 1)) _
    rw [this]
    exact PLe.refl _
  refine kO ?_
  refine WpD.ret ?_
  exact rtT rfl jj
theorem mZt (A : Nat → Nat → Int) (n m k l : Nat) (r c : Nat → Nat) (hk : k ≤ 8) (hl : l ≤ 8) (hr : ∀ i, i < k → r i < n) (hc : ∀ j, j < l → c j < m) : Fn Tryz.prog En 154 [zmt A n m, isl r k, isl c l] (zmt (fun i j => A (r i) (c j)) k l) := by
 refine aZb Tryz.func154 rfl Tryz.ntmps154 rfl ?_
 intro w0 h0
 refine js<|jr<|ja jj<|jn<|js<|jr<|ja jj<|jn<|js<|js<|jr<|jm jj<|jE jj<|jm jj<|jn<|jb ?_
 refine WpD.loop (α := {i : Nat // i ≤ k}) (fun i => ⟨[(0, .one (zmt A n m)), (2, .one (isl c l)), (7, .app 507 1 i.1), (13, .one (isl r k)), (14, .one (ex (.int .i64 (k : Int)))), (15, .one (ex (.int .i64 (i.1 : Int))))], [(507, outL (fun i => slc 2 (zRow (fun j => A (r i) (c j)) l) l) i.1), (757, [])]⟩) (fun i => k - i.1) ⟨0, Nat.zero_le _⟩ ?_ ?_
 ·dsimp only
  exact Sub.mk sJ ⟨.inr jj, .inr jj, trivial⟩
 rintro ⟨i, hi⟩
 dsimp only
 by_cases hin : i < k
 ·have hx := kZa (r := r) hin
  have hri := hr i hin
  refine js<|jr<|jS (bLt jj jj)<|jn<|js<|jt jj<|jp<|js<|jb<|js<|jr<|jS (aZm jj jj aO aM)<|jS (aZh jj jj)<|ja jj<|jn<|js<|jr<|ja jj<|jn<|js<|js<|jr<|jm jj<|jE jj<|jm jj<|jn<|jb ?_
  refine WpD.loop (α := {j : Nat // j ≤ l}) (fun j => ⟨[(0, .one (zmt A n m)), (2, .one (isl c l)), (7, .app 507 1 i), (9, .one (ex (.int .i64 ((r i : Nat) : Int)))), (10, .app 510 2 j.1), (13, .one (isl r k)), (14, .one (ex (.int .i64 (k : Int)))), (15, .one (ex (.int .i64 (i : Int)))), (19, .one (isl c l)), (20, .one (ex (.int .i64 (l : Int)))), (21, .one (ex (.int .i64 (j.1 : Int))))], [(507, outL (fun i => slc 2 (zRow (fun j => A (r i) (c j)) l) l) i), (757, []), (510, zRow (fun j => A (r i) (c j)) j.1), (760, [])]⟩) (fun j => l - j.1) ⟨0, Nat.zero_le _⟩ ?_ ?_
  ·dsimp only
   exact Sub.mk sJ ⟨.inl pQ, .inr jj, .inr jj, .inr jj, trivial⟩
  rintro ⟨j, hj⟩
  dsimp only
  by_cases hjl : j < l
  ·have hy := kZa (r := c) hjl
   have hcj := hc j hjl
   refine js<|jr<|jS (bLt jj jj)<|jn<|js<|jt jj<|jp<|js<|jb<|js<|jr<|jS (aZm jj jj aO aM)<|jS (aZh jj jj)<|ja jj<|jn<|jr<|jm jj<|jm jj<|jm jj<|jS (bZb jj jj aO)<|jS (aZh jj jj)<|jm jj<|jS (bZm jj jj aO (fun _ _ => jj))<|jS (aZq jj jj jj)<|jS (aZ5 (ps := [(_, _)]) ⟨jj, Part.c jj, trivial⟩ jj jj jj)<|RG.SW (LT.plain jj (aZD 534 jj jj ((dZO _ _)) jj oM oM jj jj jj jj jj jj)) jj<|ja jj<|jn<|jr<|jS (bAd jj jj wO)<|jm jj<|jn ?_
   refine ⟨⟨j + 1, oM⟩, ?_, oD⟩
   dsimp only
   refine Sub.ren 510 534 rfl ?_ ?_ rfl
   ·repeat (first | exact trivial | refine ⟨.inl ⟨pK, trivial, trivial⟩, ?_⟩ | refine ⟨.inr ⟨_, _, rfl, .inl rfl, ⟨Option.some_ne_none _, Option.some_ne_none _⟩⟩, ?_⟩ | refine ⟨.inl ⟨⟨_, rfl, rfl⟩, Option.some_ne_none _, ⟨aD, aD⟩⟩, ?_⟩ | refine ⟨.inl ⟨⟨_, rfl, rfl⟩, ⟨Option.some_ne_none _, Option.some_ne_none _⟩, ⟨aD, aD, aD, aD⟩⟩, ?_⟩ | refine ⟨.inl ⟨⟨_, rfl, rfl⟩, cZo (Option.some_ne_none _) (Option.some_ne_none _), bZK aD aD aD aD⟩, ?_⟩ | refine ⟨.inr ⟨_, _, rfl, .inr ⟨oM, rfl⟩, Option.some_ne_none _⟩, ?_⟩)
   ·repeat (first | exact trivial | refine ⟨.inr ⟨aD, .inr rfl⟩, ?_⟩ | refine ⟨.inl ⟨rfl, _, rfl, PsLe.refl _⟩, ?_⟩ | refine ⟨.inr ⟨aD, .inl ⟨aD, _, rfl, PsLe.refl _⟩⟩, ?_⟩)
  ·have e : j = l := oM
   subst e
   refine js<|jr<|jS (bLf jj jj)<|jn<|js<|jf jj<|je ?_
   refine WpD.sub (τ := ⟨[(0, .one (zmt A n m)), (2, .one (isl c j)), (7, .app 507 1 i), (10, .one (slc 2 (zRow (fun j => A (r i) (c j)) j) j)), (13, .one (isl r k)), (14, .one (ex (.int .i64 (k : Int)))), (15, .one (ex (.int .i64 (i : Int))))], [(507, outL (fun i' => slc 2 (zRow (fun j => A (r i') (c j)) j) j) i), (757, [])]⟩) ?_ ?_
   ·refine Sub.pub 510 rfl rfl ?_ ⟨.inl pQ, .inr rfl, trivial⟩ rfl
    refine ⟨.inl ⟨pK, trivial⟩, .inl ⟨pK, trivial⟩, .inl ⟨⟨_, rfl, rfl⟩, js0 rfl, js0 rfl⟩, .inr (.inr (.inl ⟨2, j, _, rfl, rfl, dZO _ _, PLe.refl _⟩)), .inl ⟨pK, trivial⟩, .inl ⟨pK, trivial⟩, .inl ⟨pK, trivial⟩, trivial⟩
   refine kO ?_
   refine jr<|jm jj<|jm jj<|jS (aZ5 (ps := [(_, _)]) ⟨jj, Part.c jj, trivial⟩ jj jj jj)<|RG.SW (LT.plain jj (aZD 539 jj jj ((by rw [bZc, Nat.mul_one])) jj oM oM jj jj jj jj jj jj)) jj<|ja jj<|jn<|jr<|jS (bAd jj jj wO)<|jm jj<|jn ?_
   refine ⟨⟨i + 1, oM⟩, ?_, oD⟩
   dsimp only
   refine Sub.ren 507 539 rfl ?_ ?_ rfl
   ·repeat (first | exact trivial | refine ⟨.inl ⟨pK, trivial, trivial⟩, ?_⟩ | refine ⟨.inr ⟨_, _, rfl, .inl rfl, ⟨Option.some_ne_none _, Option.some_ne_none _⟩⟩, ?_⟩ | refine ⟨.inl ⟨⟨_, rfl, rfl⟩, Option.some_ne_none _, ⟨aD, aD⟩⟩, ?_⟩ | refine ⟨.inl ⟨⟨_, rfl, rfl⟩, ⟨Option.some_ne_none _, Option.some_ne_none _⟩, ⟨aD, aD, aD, aD⟩⟩, ?_⟩ | refine ⟨.inl ⟨⟨_, rfl, rfl⟩, cZo (Option.some_ne_none _) (Option.some_ne_none _), bZK aD aD aD aD⟩, ?_⟩ | refine ⟨.inr ⟨_, _, rfl, .inr ⟨oM, rfl⟩, Option.some_ne_none _⟩, ?_⟩)
   ·repeat (first | exact trivial | refine ⟨.inr ⟨aD, .inr rfl⟩, ?_⟩ | refine ⟨.inl ⟨rfl, _, rfl, PsLe.refl _⟩, ?_⟩ | refine ⟨.inr ⟨aD, .inl ⟨aD, _, rfl, PsLe.refl _⟩⟩, ?_⟩)
 ·have e : i = k := oM
  subst e
  refine js<|jr<|jS (bLf jj jj)<|jn<|js<|jf jj<|je<|js ?_
  refine WpD.sub (τ := ⟨[(7, .one (zmt (fun i j => A (r i) (c j)) i l))], []⟩) ?_ ?_
  ·refine Sub.pub 507 rfl rfl ⟨.inr (.inr (.inl ⟨1, i, _, rfl, rfl, (by rw [bZc, Nat.mul_one]), PLe.refl _⟩)), trivial⟩ trivial rfl
  refine kO ?_
  refine jr<|jm jj<|ja jj<|jn<|ji ?_
  exact rtT rfl jj
theorem jZP (A : Nat → Nat → Int) (n K : Nat) (hn : 1 ≤ n) (hn8 : n ≤ 8) (hK : K ≤ 1000000) (hA : ZL A n n K) : Fn Tryz.prog En 110 [zmt A n n] (tupP [zsl (fun k => det (k + 1) A) n, ex (.bool true)]) := by
 have C0 := mZr En A n hn hn8
 refine aZb Tryz.func110 rfl Tryz.ntmps110 rfl ?_
 intro w0 h0
 refine js<|jr<|ja jj<|ja jj<|jn<|js<|jr<|jm jj<|jS (aZa C0 tA)<|jm jj<|jx' jj jj<|jx' jj jj<|ja jj<|ja jj<|jn<|js<|js<|jr<|jm jj<|jS (bNo jj)<|jn<|jf jj<|jp<|js<|jr<|ja jj<|jn<|js<|js<|jr<|ja jj<|jn<|jb ?_
 refine WpD.loop (α := {i : Nat // i ≤ n}) (fun i => ⟨[(0, .one (zmt A n n)), (4, .one (ex (.int .i64 (n : Int)))), (6, .app 506 2 i.1), (7, .one (ex (.int .i64 (i.1 : Int))))], [(506, zRow (fun k => det (k + 1) A) i.1), (756, [])]⟩) (fun i => n - i.1) ⟨0, Nat.zero_le _⟩ ?_ ?_
 ·dsimp only
  exact Sub.mk sJ ⟨.inr jj, .inr jj, trivial⟩
 rintro ⟨i, hi⟩
 dsimp only
 by_cases hin : i < n
 ·have C1 := mfirst En i i oM
  have C2 := mZt En A n n (i + 1) (i + 1) (fstN i i) (fstN i i) oM oM (fun a ha => by unfold fstN; split <;> omega) (fun a ha => by unfold fstN; split <;> omega)
  have e : zmt (fun a b => A (fstN i i a) (fstN i i b)) (i + 1) (i + 1) = zmt A (i + 1) (i + 1) := dZM fun a b ha hb => by
   have : ∀ x, x < i + 1 → fstN i i x = x := fun x hx => by unfold fstN; split <;> omega
   rw [this a ha, this b hb]
  rw [e] at C2
  have C3 := mdet En A (i + 1) K oM oM hK fun a b ha hb => hA a b oM oM
  refine js<|js<|jr<|jm jj<|jm jj<|jS (bLt jj jj)<|jn<|jt jj<|jp<|js<|jb<|jr<|jm jj<|jm jj<|jm jj<|jm jj<|jS (aZa C1 tB)<|jm jj<|jm jj<|jS (aZa C1 tB)<|jS (aZa C2 tC)<|jS (aZa C3 tA)<|jS (aZ5 (ps := [(_, _)]) ⟨jj, Part.c jj, trivial⟩ jj jj jj)<|RG.SW (LT.plain jj (aZD 531 jj jj ((dZO _ _)) jj oM oM jj jj jj jj jj jj)) jj<|ja jj<|jn<|jr<|jm jj<|jS (bAd jj jj wO)<|ja jj<|jn ?_
  refine ⟨⟨i + 1, oM⟩, ?_, oD⟩
  dsimp only
  refine Sub.ren 506 531 rfl ?_ ?_ rfl
  ·repeat (first | exact trivial | refine ⟨.inl ⟨pK, trivial, trivial⟩, ?_⟩ | refine ⟨.inr ⟨_, _, rfl, .inl rfl, ⟨Option.some_ne_none _, Option.some_ne_none _⟩⟩, ?_⟩ | refine ⟨.inl ⟨⟨_, rfl, rfl⟩, Option.some_ne_none _, ⟨aD, aD⟩⟩, ?_⟩ | refine ⟨.inl ⟨⟨_, rfl, rfl⟩, ⟨Option.some_ne_none _, Option.some_ne_none _⟩, ⟨aD, aD, aD, aD⟩⟩, ?_⟩ | refine ⟨.inl ⟨⟨_, rfl, rfl⟩, cZo (Option.some_ne_none _) (Option.some_ne_none _), bZK aD aD aD aD⟩, ?_⟩ | refine ⟨.inr ⟨_, _, rfl, .inr ⟨oM, rfl⟩, Option.some_ne_none _⟩, ?_⟩)
  ·repeat (first | exact trivial | refine ⟨.inr ⟨aD, .inr rfl⟩, ?_⟩ | refine ⟨.inl ⟨rfl, _, rfl, PsLe.refl _⟩, ?_⟩ | refine ⟨.inr ⟨aD, .inl ⟨aD, _, rfl, PsLe.refl _⟩⟩, ?_⟩)
 ·have e : i = n := oM
  subst e
  refine js<|js<|jr<|jm jj<|jm jj<|jS (bLf jj jj)<|jn<|jf jj<|je<|js ?_
  refine WpD.sub (τ := ⟨[(6, .one (zsl (fun k => det (k + 1) A) i))], []⟩) ?_ ?_
  ·refine Sub.pub 506 rfl rfl ⟨.inr (.inr (.inl ⟨2, i, _, rfl, rfl, dZO _ _, PLe.refl _⟩)), trivial⟩ trivial rfl
  refine kO ?_
  refine jr<|jm jj<|ja jj<|ja jj<|jn<|ji ?_
  exact ret2 rfl (.tmp rfl) (.tmp rfl) (PLe.refl _)
theorem cmpZ_eq {x y : Int} (h : x = y) : (cmpZ x y != 0) = false := by subst h; unfold cmpZ; simp
theorem gZa (A : Nat → Nat → Int) (n K : Nat) (hn8 : n ≤ 8) (hK : K ≤ 1000000) (hA : ZL A n n K) (hs : ∀ i j, i < n → j < n → A i j = A j i) : Fn Tryz.prog En 105 [zmt A n n] (ex (.bool true)) := by
 refine aZb Tryz.func105 rfl Tryz.ntmps105 rfl ?_
 intro w0 h0
 refine js<|jr<|ja jj<|jn<|js<|js<|jr<|jm jj<|jE jj<|jm jj<|jn<|jb ?_
 refine WpD.loop (α := {i : Nat // i ≤ n}) (fun i => ⟨[(0, .one (zmt A n n)), (6, .one (ex (.int .i64 (n : Int)))), (7, .one (ex (.int .i64 (i.1 : Int))))], []⟩) (fun i => n - i.1) ⟨0, Nat.zero_le _⟩ ?_ ?_
 ·dsimp only
  exact Sub.mk sJ sJ
 rintro ⟨i, hi⟩
 dsimp only
 by_cases hin : i < n
 ·refine js<|jr<|jS (bLt jj jj)<|jn<|js<|jt jj<|jp<|js<|jb<|js<|jr<|jm jj<|ja jj<|jn<|js<|jr<|ja jj<|jn<|jb ?_
  refine WpD.loop (α := {j : Nat // j ≤ i}) (fun j => ⟨[(0, .one (zmt A n n)), (3, .one (ex (.int .i64 (i : Int)))), (4, .one (ex (.int .i64 (j.1 : Int)))), (6, .one (ex (.int .i64 (n : Int)))), (7, .one (ex (.int .i64 (i : Int))))], []⟩) (fun j => i - j.1) ⟨0, Nat.zero_le _⟩ ?_ ?_
  ·dsimp only
   exact Sub.mk sJ sJ
  rintro ⟨j, hj⟩
  dsimp only
  by_cases hjl : j < i
  ·have C1 := ccmp En (A i j) (A j i) (Nat.le_trans (hA _ _ hin oM) oM) (Nat.le_trans (hA _ _ oM hin) oM)
   have b1 := cmpZ_eq (hs i j hin oM)
   refine js<|js<|jr<|jm jj<|jm jj<|jS (bLt jj jj)<|jn<|jt jj<|jp<|js<|jb<|js<|jr<|jm jj<|jm jj<|jS (bZb jj jj aO)<|jS (aZh jj jj)<|jm jj<|jS (bZm jj jj aO (fun _ _ => jj))<|jS (aZq jj jj jj)<|jm jj<|jm jj<|jS (bZb jj jj aO)<|jS (aZh jj jj)<|jm jj<|jS (bZm jj jj aO (fun _ _ => jj))<|jS (aZq jj jj jj)<|jS (aZa C1 ⟨jj, jj, trivial⟩)<|jS (bVn jj jj b1)<|jn<|jf jj<|jp<|jr<|jm jj<|jS (bAd jj jj wO)<|ja jj<|jn ?_
   refine ⟨⟨j + 1, oM⟩, ?_, oD⟩
   dsimp only
   exact Sub.mk sJ sJ
  ·refine js<|js<|jr<|jm jj<|jm jj<|jS (bLf jj jj)<|jn<|jf jj<|je<|jr<|jS (bAd jj jj wO)<|jm jj<|jn ?_
   refine ⟨⟨i + 1, oM⟩, ?_, oD⟩
   dsimp only
   exact Sub.mk sJ sJ
 ·refine js<|jr<|jS (bLf jj jj)<|jn<|js<|jf jj<|je<|js<|jr<|ja jj<|jn<|ji ?_
  exact rtT rfl jj
def posB (A : Nat → Nat → Int) (n : Nat) : Bool := decide (∀ k, k < n → 0 < det (k + 1) A)
theorem lZE (x : Int) : decide (sg3 x ≤ 0) = decide (x ≤ 0) := by
 unfold sg3
 by_cases h : x = 0
 ·subst h; rfl
 ·rw [if_neg h]
  by_cases h2 : x < 0
  ·rw [if_pos h2, decide_eq_true (p := x ≤ 0) oM]; rfl
  ·rw [if_neg h2, decide_eq_false (p := x ≤ 0) oM]; rfl
theorem mZ0 (A : Nat → Nat → Int) (n K : Nat) (hn : 1 ≤ n) (hn8 : n ≤ 8) (hK : K ≤ 1000000) (hA : ZL A n n K) (hs : ∀ i j, i < n → j < n → A i j = A j i) : Fn Tryz.prog En 106 [zmt A n n] (ex (.bool (posB A n))) := by
 have C0 := jZP En A n K hn hn8 hK hA
 have C1 := gZa En A n K hn8 hK hA hs
 refine aZb Tryz.func106 rfl Tryz.ntmps106 rfl ?_
 intro w0 h0
 refine js<|jr<|ja jj<|jn<|js<|jr<|jm jj<|jS (aZa C0 ⟨jj, trivial⟩)<|jm jj<|jx' jj jj<|jx' jj jj<|ja jj<|ja jj<|jn<|js<|js<|jr<|jm jj<|jS (bNo jj)<|jm jj (jgm jj (jg (aZa C1 ⟨jj, trivial⟩) (jg (bNo jj) (jQ jj jj (jn (jf jj (jp (js (js (jr (jm jj (jE jj (jm jj (jn (jb ?_)))))))))))))))
 refine WpD.loop (α := {i : Nat // i ≤ n ∧ ∀ k, k < i → 0 < det (k + 1) A}) (fun i => ⟨[(19, .one (zsl (fun k => det (k + 1) A) n)), (20, .one (ex (.int .i64 (n : Int)))), (21, .one (ex (.int .i64 (i.1 : Int))))], []⟩) (fun i => n - i.1) ⟨0, Nat.zero_le _, fun k hk => oM⟩ ?_ ?_
 ·dsimp only
  exact Sub.mk sJ sJ
 rintro ⟨i, hi, hpos⟩
 dsimp only
 by_cases hin : i < n
 ·have C2 := pZh En (det (i + 1) A) (Nat.le_trans (dZf oM fun a b ha hb => hA a b oM oM) oM)
  by_cases hd : 0 < det (i + 1) A
  ·have b1 : decide (sg3 (det (i + 1) A) ≤ 0) = false := by rw [lZE, decide_eq_false]; omega
   refine js<|jr<|jS (bLt jj jj)<|jn<|js<|jt jj<|jp<|js<|jb<|js<|jr<|jS (bZm jj jj aO (fun _ _ => jj))<|jS (aZq jj jj jj)<|jA jj jj jj<|jP jj jj jj jj<|jn<|js<|jr<|jL jj jj jj<|jS (aZa C2 ⟨jj, trivial⟩)<|jS (bVe jj jj b1)<|jn<|jf jj<|jp<|jr<|jS (bAd jj jj wO)<|jm jj<|jn ?_
   refine ⟨⟨i + 1, oM, fun k hk => ?_⟩, ?_, oD⟩
   ·by_cases e : k = i
    ·rw [e]; exact hd
    ·exact hpos k oM
   dsimp only
   exact Sub.mk sJ sJ
  ·have b1 : decide (sg3 (det (i + 1) A) ≤ 0) = true := by rw [lZE, decide_eq_true]; omega
   refine js<|jr<|jS (bLt jj jj)<|jn<|js<|jt jj<|jp<|js<|jb<|js<|jr<|jS (bZm jj jj aO (fun _ _ => jj))<|jS (aZq jj jj jj)<|jA jj jj jj<|jP jj jj jj jj<|jn<|js<|jr<|jL jj jj jj<|jS (aZa C2 ⟨jj, trivial⟩)<|jS (bVe jj jj b1)<|jn<|jt jj<|js<|jr<|ja jj<|jn<|ji ?_
   refine ret1 rfl (.tmp rfl) ?_
   unfold posB
   rw [decide_eq_false fun h => hd (h i hin)]
   exact PLe.refl _
 ·refine js<|jr<|jS (bLf jj jj)<|jn<|js<|jf jj<|je<|js<|jr<|ja jj<|jn<|ji ?_
  refine ret1 rfl (.tmp rfl) ?_
  unfold posB
  rw [decide_eq_true fun k hk => hpos k oM]
  exact PLe.refl _
theorem hZE (A : Nat → Nat → Int) (n K : Nat) (hn : 1 ≤ n) (hn8 : n ≤ 8) (hK : K ≤ 1000000) (hA : ZL A n n K) (hs : ∀ i j, i < n → j < n → A i j = A j i) : Fn Tryz.prog En 46 [zmt A n n] (ex (.int .i64 (bif posB A n then 0 else 5))) := by
 have C0 := mZr En A n hn hn8
 have C1 := gZa En A n K hn8 hK hA hs
 have C2 := mZ0 En A n K hn hn8 hK hA hs
 have b1 : decide ((n : Int) > 8) = false := decide_eq_false oM
 cases hp : posB A n with
 | true =>
  rw [hp] at C2
  refine aZb Tryz.func46 rfl Tryz.ntmps46 rfl ?_
  intro w0 h0
  refine js<|jr<|ja jj<|jn<|js<|jr<|jm jj<|jS (aZa C0 tA)<|jm jj<|jx' jj jj<|jx' jj jj<|ja jj<|ja jj<|jn<|js<|jb<|js<|jr<|jm jj<|jS (bNo jj)<|jm jj (jgm jj (jg (bVg jj jj b1) (jQ jj jj (ja jj (jn (jf jj (js (jr (jm jj (jS (aZa C1 tA) (jS (bNo jj) (ja jj (jn (jf jj (js (jr (jm jj (jS (aZa C2 tA) (jS (bNo jj) (ja jj (jn ?_)))))))))))))))))))))
  refine jf jj<|jp<|js<|jr<|ja jj<|jn<|ji ?_
  exact rtT rfl jj
 | false =>
  rw [hp] at C2
  refine aZb Tryz.func46 rfl Tryz.ntmps46 rfl ?_
  intro w0 h0
  refine js<|jr<|ja jj<|jn<|js<|jr<|jm jj<|jS (aZa C0 tA)<|jm jj<|jx' jj jj<|jx' jj jj<|ja jj<|ja jj<|jn<|js<|jb<|js<|jr<|jm jj<|jS (bNo jj)<|jm jj (jgm jj (jg (bVg jj jj b1) (jQ jj jj (ja jj (jn (jf jj (js (jr (jm jj (jS (aZa C1 tA) (jS (bNo jj) (ja jj (jn (jf jj (js (jr (jm jj (jS (aZa C2 tA) (jS (bNo jj) (ja jj (jn ?_)))))))))))))))))))))
  refine jt jj<|js<|jr<|ja jj<|jn<|ji ?_
  exact rtT rfl jj
theorem gZb (A T : Nat → Nat → Int) (n K : Nat) (hn : 1 ≤ n) (hn8 : n ≤ 8) (hK : K ≤ 1000000) (hA : ZL A n n K) (hT : ZL T n n K) : Fn Tryz.prog En 52 [zmt A n n, zmt T n n] (zmt (mulM (mulM (trM T) A n) T n) n n) := by
 have C0 := fZt En T n n K hn hn8 hn hn8 oM hT
 have hT' : ZL (trM T) n n K := fun i j hi hj => hT j i hj hi
 have C1 := eZT En (trM T) A n n n K hn hn8 hn hn8 hn hn8 oM hT' hA
 have h2 : ZL (mulM (trM T) A n) n n (2 * K + 8) := fun i j hi hj => by
  have := jZe (f := fun c => trM T i c * A c j) (K := 2 * K) (n := n) fun c hc => by
   have a1 := bZh (trM T i c) (A c j)
   have a2 := hT' i c hi hc
   have a3 := hA c j hc hj
   omega
  show zl (sumZ _ n) ≤ _
  omega
 have C2 := eZT En (mulM (trM T) A n) T n n n (2 * K + 8) hn hn8 hn hn8 hn hn8 oM h2 (fun i j hi hj => Nat.le_trans (hT i j hi hj) oM)
 refine aZb Tryz.func52 rfl Tryz.ntmps52 rfl ?_
 intro w0 h0
 refine js<|jr<|ja jj<|jn<|js<|jr<|jm jj<|jS (aZa C0 tA)<|jm jj<|jx' jj jj<|jx' jj jj<|ja jj<|ja jj<|jn<|js<|jr<|jm jj<|jm jj<|jS (aZa C1 tB)<|jm jj<|jS (aZa C2 tB)<|ja jj<|jn<|ji ?_
 exact rtT rfl jj
theorem xint64 (s : Bool) (l : List Nat) (hlen : l.length ≤ 1099511627776) (hv : val l < 9223372036854775808) : Fn Tryz.prog En 20 [zR s l] (tupP [ex (.int .i64 (zv s l)), ex (.bool true)]) := by
 have C1 := fZI En l hlen
 unfold zv
 generalize val l = n at *
 have h2 : (digs n).length ≤ 2 := aZw (by rw [aZv]; omega)
 have C2 := flow En (digs n) h2
 rw [aZi] at C2
 have b1 : decide (((digs n).length : Int) > 2) = false := decide_eq_false oM
 cases s with
 | true =>
  have b2 : decide ((n : Int) ≤ 9223372036854775808) = true := decide_eq_true oM
  have e2 : IntKind.i64.wrap (IntKind.u64.wrap (-(n : Int))) = sgnZ true n := by rw [IntKind.wrap_u64, IntKind.wrap_i64]; unfold sgnZ; simp; omega
  refine aZb Tryz.func20 rfl Tryz.ntmps20 rfl ?_
  intro w0 h0
  refine kO ?_
  refine jr<|jB jj jj jj<|ja jj<|ja jj<|jn ?_
  refine kO ?_
  refine jr<|jF jj jj<|jl jj jj jj<|jS (aZa C1 tA)<|ja jj<|jn ?_
  refine kO ?_
  refine jr<|jm jj<|jS (aZa C2 tA)<|ja jj<|jn ?_
  refine kO ?_
  refine jr<|jm jj<|jE jj<|jS (bVg jj jj b1)<|ja jj<|jn ?_
  refine kO ?_
  refine WpD.condF rfl ?_
  refine kO ?_
  refine jr<|jF jj jj<|jl jj jj jj<|jm jj ?_
  first | refine jgm jj ?_ | refine jk ?_
  first | refine jg (bVe jj jj b2) ?_ | refine jk ?_
  first | refine jq jj jj ?_ | refine jQ jj jj ?_
  refine ja jj<|jn ?_
  refine kO ?_
  refine WpD.condT rfl ?_
  refine kO ?_
  refine jr<|jm jj<|jS (oZj jj (fun w => cZ0 w _ _))<|jS (bCv jj e2)<|ja jj<|ja jj<|jn ?_
  refine kO ?_
  refine WpD.ret ?_
  exact ret2 rfl (.tmp rfl) (.tmp rfl) (PLe.refl _)
 | false =>
  have b2 : decide ((n : Int) < 9223372036854775808) = true := decide_eq_true oM
  have e2 : IntKind.i64.wrap (n : Int) = sgnZ false n := by rw [IntKind.wrap_i64]; unfold sgnZ; simp; omega
  refine aZb Tryz.func20 rfl Tryz.ntmps20 rfl ?_
  intro w0 h0
  refine kO ?_
  refine jr<|jB jj jj jj<|ja jj<|ja jj<|jn ?_
  refine kO ?_
  refine jr<|jF jj jj<|jl jj jj jj<|jS (aZa C1 tA)<|ja jj<|jn ?_
  refine kO ?_
  refine jr<|jm jj<|jS (aZa C2 tA)<|ja jj<|jn ?_
  refine kO ?_
  refine jr<|jm jj<|jE jj<|jS (bVg jj jj b1)<|ja jj<|jn ?_
  refine kO ?_
  refine WpD.condF rfl ?_
  refine kO ?_
  refine jr<|jF jj jj<|jl jj jj jj<|jm jj ?_
  first | refine jgm jj ?_ | refine jk ?_
  first | refine jg (aZ6 jj jj (fun w => eZq w _ _ _ _ _ _)) ?_ | refine jk ?_
  first | refine jq jj jj ?_ | refine jQ jj jj ?_
  refine ja jj<|jn ?_
  refine kO ?_
  refine WpD.condF rfl ?_
  refine kO ?_
  refine jr<|jF jj jj<|jl jj jj jj<|jS (bNo jj)<|jm jj ?_
  first | refine jgm jj ?_ | refine jk ?_
  first | refine jg (bVl jj jj b2) ?_ | refine jk ?_
  first | refine jq jj jj ?_ | refine jQ jj jj ?_
  refine ja jj<|jn ?_
  refine kO ?_
  refine WpD.condT rfl ?_
  refine kO ?_
  refine jr<|jm jj<|jS (bCv jj e2)<|ja jj<|ja jj<|jn ?_
  refine kO ?_
  refine WpD.ret ?_
  exact ret2 rfl (.tmp rfl) (.tmp rfl) (PLe.refl _)
end
end Go.Proofs.YtfmjdlogjmofbaaGreatDoor
namespace Go.Proofs.YtfmjdlogjmofbaaGreatDoor.Det
def tr (M : Mx) : Mx := fun r c => M c r
def opR (M : Mx) (i j : Nat) (q : Int) : Mx := fun r c => if r = i then M i c - q * M j c else M r c
def opC (M : Mx) (i j : Nat) (q : Int) : Mx := fun r c => if c = i then M r i - q * M r j else M r c
def opA (M : Mx) (i j : Nat) (q : Int) : Mx := opC (opR M i j q) i j q
theorem kZw {M : Mx} {k j c : Nat} (h : j < k) : bm M k j c = 0 := by
 refine fZ9 (k := j) (l := k) oM oM oM fun c _ => ?_
 unfold bo; simp only [if_pos h, if_neg (Nat.lt_irrefl k)]
theorem nZw {M : Mx} {k j c : Nat} (h : j < k) : bm M k c j = 0 := by
 rw [← bm_tr]; exact kZw h
theorem bmR1 {M : Mx} {i j k r c : Nat} {q : Int} (hj : j < i) (hi : i < k) (hr : k ≤ r) : bm (opR M i j q) k r c = bm M k r c := by
 have := kZo (n := k + 1) (A := bo (opR M i j q) k r c) (B := bo M k r c) (k := i) (l := j) (x := 1) (y := -q) oM oM oM (fun c' _ => by
   unfold bo opR
   simp only [if_pos hi, if_pos (Nat.lt_trans hj hi), if_true]
   grind) (fun r' c' h1 _ h2 => by
   unfold bo opR
   rw [if_neg]
   split <;> omega)
 rw [Int.one_mul] at this
 exact this
theorem bmR2 {M : Mx} {i j k r c : Nat} {q : Int} (hi : k ≤ i) (hr : r ≠ i) : bm (opR M i j q) k r c = bm M k r c := by
 refine aZJ fun r' c' _ _ => ?_
 unfold bo opR
 rw [if_neg]
 split <;> omega
theorem bmR3 {M : Mx} {i j k c : Nat} {q : Int} (hi : k ≤ i) : bm (opR M i j q) k i c = bm M k i c - q * bm M k j c := by
 have := cZA (n := k + 1) (A := bo (opR M i j q) k i c) (B := bo M k i c) (C := bo M k j c) (k := k) (x := 1) (y := -q) oM (fun c' _ => by
   unfold bo opR
   simp only [if_neg (Nat.lt_irrefl k), if_true]
   grind) (fun r' c' h1 _ h2 => by
   unfold bo opR
   have h3 : r' < k := oM
   simp only [if_pos h3, if_neg (show ¬ r' = i by omega)]) (fun r' c' h1 _ h2 => by
   unfold bo opR
   have h3 : r' < k := oM
   simp only [if_pos h3, if_neg (show ¬ r' = i by omega)])
 show det _ _ = det _ _ - q * det _ _
 rw [this]; grind
theorem mZe (M : Mx) (i j : Nat) (q : Int) : tr (opC M i j q) = opR (tr M) i j q := rfl
theorem bm_T (M : Mx) (k i j : Nat) : bm M k i j = bm (tr M) k j i := (bm_tr M k j i).symm
theorem bmC1 {M : Mx} {i j k r c : Nat} {q : Int} (hj : j < i) (hi : i < k) (hc : k ≤ c) : bm (opC M i j q) k r c = bm M k r c := by
 rw [bm_T, mZe, bmR1 hj hi hc, ← bm_T]
theorem bmC2 {M : Mx} {i j k r c : Nat} {q : Int} (hi : k ≤ i) (hc : c ≠ i) : bm (opC M i j q) k r c = bm M k r c := by
 rw [bm_T, mZe, bmR2 hi hc, ← bm_T]
theorem bmC3 {M : Mx} {i j k r : Nat} {q : Int} (hi : k ≤ i) : bm (opC M i j q) k r i = bm M k r i - q * bm M k r j := by
 rw [bm_T, mZe, bmR3 hi, ← bm_T, ← bm_T]
theorem rZg {M : Mx} {i j k r c : Nat} {q : Int} (hj : j < i) (hi : i < k) (hr : k ≤ r) (hc : k ≤ c) : bm (opA M i j q) k r c = bm M k r c := by
 unfold opA; rw [bmC1 hj hi hc, bmR1 hj hi hr]
theorem rZf {M : Mx} {i j k r c : Nat} {q : Int} (hi : k ≤ i) (hr : r ≠ i) (hc : c ≠ i) : bm (opA M i j q) k r c = bm M k r c := by
 unfold opA; rw [bmC2 hi hc, bmR2 hi hr]
theorem iZY {M : Mx} {i j k c : Nat} {q : Int} (hi : k ≤ i) (hc : c ≠ i) : bm (opA M i j q) k i c = bm M k i c - q * bm M k j c := by
 unfold opA; rw [bmC2 hi hc, bmR3 hi]
def lam (M : Mx) (i j : Nat) : Int := bm M j i j
theorem iZF {M : Mx} {i j r l : Nat} {q : Int} (hj : j < i) (hl : l < r) (hr : r ≠ i) : lam (opA M i j q) r l = lam M r l := by
 unfold lam
 by_cases h : i < l
 ·exact rZg hj h oM oM
 ·by_cases e : l = i
  ·subst e
   unfold opA
   rw [bmC3 (Nat.le_refl _), bmR2 (Nat.le_refl _) hr, bmR2 (Nat.le_refl _) hr, nZw hj]
   omega
  ·exact rZf oM hr e
theorem mZB {M : Mx} {i j l : Nat} {q : Int} (_ : j < i) (hl : l < i) (h : j < l) : lam (opA M i j q) i l = lam M i l := by
 unfold lam; rw [iZY oM oM, kZw h]; omega
theorem lamA_at {M : Mx} {i j : Nat} {q : Int} (hj : j < i) : lam (opA M i j q) i j = lam M i j - q * det (j + 1) M := by
 unfold lam; rw [iZY oM oM, cZc]
theorem lamA_lt {M : Mx} {i j l : Nat} {q : Int} (hj : j < i) (h : l < j) : lam (opA M i j q) i l = lam M i l - q * lam M j l := by
 unfold lam; rw [iZY oM oM]
theorem detA {M : Mx} {i j : Nat} {q : Int} (hj : j < i) (k : Nat) : det k (opA M i j q) = det k M := by
 cases k with
 | zero => rfl
 | succ k =>
  rw [← cZc, ← cZc]
  by_cases h : i < k
  ·exact rZg hj h (Nat.le_refl _) (Nat.le_refl _)
  ·by_cases e : k = i
   ·subst e
    unfold opA
    rw [bmC3 (Nat.le_refl _), bmR3 (Nat.le_refl _), bmR3 (Nat.le_refl _), kZw hj, nZw hj, kZw hj]
    omega
   ·exact rZf oM e e
def tp (i r : Nat) : Nat := if r = i then i + 1 else if r = i + 1 then i else r
def sw (M : Mx) (i : Nat) : Mx := fun r c => M (tp i r) (tp i c)
theorem lZs {i r : Nat} (h1 : r ≠ i) (h2 : r ≠ i + 1) : tp i r = r := by unfold tp; rw [if_neg h1, if_neg h2]
theorem tp_i (i : Nat) : tp i i = i + 1 := by unfold tp; rw [if_pos rfl]
theorem tp_s (i : Nat) : tp i (i + 1) = i := by unfold tp; rw [if_neg oM, if_pos rfl]
theorem kZn {M : Mx} {i k : Nat} (h : k ≠ i + 1) : det k (sw M i) = det k M := by
 by_cases hk : k ≤ i
 ·exact aZJ fun r c hr hc => by unfold sw; rw [lZs oM oM, lZs oM oM]
 ·have e1 := eZX (n := k) (A := sw M i) (B := fun r c => M r (tp i c)) (k := i) (l := i + 1) oM oM oM (fun c _ => by show M (tp i i) _ = _; rw [tp_i]) (fun c _ => by show M (tp i (i + 1)) _ = _; rw [tp_s]) (fun r c _ _ h1 h2 => by show M (tp i r) _ = _; rw [lZs h1 h2])
  have e2 := iZf (n := k) (A := fun r c => M r (tp i c)) (B := M) (k := i) (l := i + 1) oM oM oM (fun c _ => by show M _ (tp i i) = _; rw [tp_i]) (fun c _ => by show M _ (tp i (i + 1)) = _; rw [tp_s]) (fun r c _ _ h1 h2 => by show M _ (tp i c) = _; rw [lZs h1 h2])
  omega
theorem fZ8 (M : Mx) (i : Nat) : det (i + 1) (sw M i) = bm M i (i + 1) (i + 1) := by
 refine aZJ fun r c hr hc => ?_
 have e : ∀ x, x < i + 1 → tp i x = if x < i then x else i + 1 := fun x hx => by
  by_cases g : x < i
  ·rw [if_pos g, lZs oM oM]
  ·rw [if_neg g, show x = i by omega, tp_i]
 unfold sw bo
 rw [e r hr, e c hc]
def Sym (M : Mx) : Prop := ∀ r c, M r c = M c r
theorem Sym.tr {M : Mx} (h : Sym M) : tr M = M := by funext r c; exact h c r
theorem Sym.bm {M : Mx} (h : Sym M) (k i j : Nat) : bm M k i j = bm M k j i := by rw [bm_T, h.tr]
theorem Sym.opA {M : Mx} (h : Sym M) (i j : Nat) (q : Int) : Sym (opA M i j q) := fun r c => by
 unfold Det.opA opC opR
 have h1 := h r c; have h2 := h i j; have h3 := h j r; have h4 := h i r; have h5 := h j c; have h6 := h i c
 split <;> split <;> grind
theorem Sym.sw {M : Mx} (h : Sym M) (i : Nat) : Sym (sw M i) := fun _ _ => h _ _
def Pos (n : Nat) (M : Mx) : Prop := ∀ k, k ≤ n → 0 < det k M
theorem cZN {M : Mx} {n k r : Nat} (hs : Sym M) (hp : Pos n M) (hk : k < r) (hr : r < n) : bm M (k + 1) r r * det k M = det (k + 1) M * bm M k r r - lam M r k * lam M r k := by
 have e := fZD (M := M) (k := k) (i := r) (j := r) (fun l hl => by have := hp (l + 1) oM; omega) hk hk
 rw [cZc, hs.bm k k r] at e
 exact e
theorem iZx {M : Mx} {n r : Nat} (hs : Sym M) (hp : Pos n M) (hr : r < n) : ∀ d k, k + d = r → 0 < bm M k r r
 | 0, k, h => by rw [show k = r by omega, cZc]; exact hp _ oM
 | d + 1, k, h => by
  have ih := iZx hs hp hr d (k + 1) oM
  have e := cZN hs hp (k := k) (r := r) oM hr
  have h1 : 0 < bm M (k + 1) r r * det k M := Int.mul_pos ih (hp k oM)
  have h2 : 0 ≤ lam M r k * lam M r k := by
   rcases Int.le_total 0 (lam M r k) with g | g
   ·exact Int.mul_nonneg g g
   ·exact Int.mul_nonneg_of_nonpos_of_nonpos g g
  have h3 : 0 < det (k + 1) M * bm M k r r := oM
  exact Int.pos_of_mul_pos_right h3 (hp (k + 1) oM)
theorem gZ1 (x : Int) : 0 ≤ x * x := by
 rcases Int.le_total 0 x with g | g
 ·exact Int.mul_nonneg g g
 ·exact Int.mul_nonneg_of_nonpos_of_nonpos g g
theorem s_le {M : Mx} {n r : Nat} (hs : Sym M) (hp : Pos n M) (hr : r < n) : ∀ k, k ≤ r → bm M k r r ≤ det k M * M r r
 | 0, _ => by rw [cZv]; show _ ≤ 1 * _; omega
 | k + 1, hk => by
  have ih := s_le hs hp hr k oM
  have e := cZN hs hp (k := k) (r := r) oM hr
  have h2 := gZ1 (lam M r k)
  have hd := hp (k + 1) oM
  have h3 := Int.mul_le_mul_of_nonneg_left ih (Int.le_of_lt hd)
  have h4 : bm M (k + 1) r r * det k M ≤ det (k + 1) M * M r r * det k M := by
   rw [show det (k + 1) M * M r r * det k M = det (k + 1) M * (det k M * M r r) by grind]; omega
  exact Int.le_of_mul_le_mul_right h4 (hp k oM)
theorem lam_sq {M : Mx} {n k r : Nat} (hs : Sym M) (hp : Pos n M) (hk : k < r) (hr : r < n) : lam M r k * lam M r k ≤ det (k + 1) M * (det k M * M r r) := by
 have e := cZN hs hp hk hr
 have h1 := iZx hs hp hr (r - (k + 1)) (k + 1) oM
 have h2 := Int.mul_pos h1 (hp k oM)
 have h3 := Int.mul_le_mul_of_nonneg_left (s_le hs hp hr k oM) (Int.le_of_lt (hp (k + 1) oM))
 omega
theorem s_up {M : Mx} {n r : Nat} {B D : Int} (hs : Sym M) (hp : Pos n M) (hr : r < n) (hB : 0 ≤ B) (hD : ∀ k, k ≤ n → det k M ≤ D) (hl : ∀ k, k < r → lam M r k * lam M r k ≤ B * (det (k + 1) M * det (k + 1) M)) : ∀ d k, k + d = r → bm M k r r ≤ (D + d * (B * D)) * det k M
 | 0, k, h => by
  rw [show k = r by omega, cZc]
  have h1 := hD (r + 1) oM
  have h2 := hp r oM
  have h3 := hp (r + 1) oM
  have h4 : D * 1 ≤ D * det r M := Int.mul_le_mul_of_nonneg_left oM oM
  simp only [Int.natCast_zero, Int.zero_mul, Int.add_zero, Int.mul_one] at *
  omega
 | d + 1, k, h => by
  have ih := s_up hs hp hr hB hD hl d (k + 1) oM
  have e := cZN hs hp (k := k) (r := r) oM hr
  have hk := hp k oM
  have hk1 := hp (k + 1) oM
  have h1 := Int.mul_le_mul_of_nonneg_right ih (Int.le_of_lt hk)
  have h2 := hl k oM
  have h3 := hD (k + 1) oM
  have h4 : B * det (k + 1) M ≤ B * D := Int.mul_le_mul_of_nonneg_left h3 hB
  have h5 : (B * D) * 1 ≤ (B * D) * det k M := Int.mul_le_mul_of_nonneg_left oM (Int.mul_nonneg hB oM)
  have h6 : det (k + 1) M * (B * det (k + 1) M) ≤ det (k + 1) M * ((B * D) * det k M) := Int.mul_le_mul_of_nonneg_left oM oM
  have h7 : det (k + 1) M * bm M k r r ≤ det (k + 1) M * ((D + ((d + 1 : Nat) : Int) * (B * D)) * det k M) := by
   rw [show det (k + 1) M * ((D + ((d + 1 : Nat) : Int) * (B * D)) * det k M) = (D + (d : Int) * (B * D)) * det (k + 1) M * det k M + det (k + 1) M * ((B * D) * det k M) by rw [Int.natCast_add]; grind]
   have h8 : B * (det (k + 1) M * det (k + 1) M) = det (k + 1) M * (B * det (k + 1) M) := by grind
   omega
  exact Int.le_of_mul_le_mul_left h7 hk1
end Go.Proofs.YtfmjdlogjmofbaaGreatDoor.Det

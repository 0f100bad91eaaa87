/- Matrices made of numbers. -/
import Derived.Test.YtfmjdlogjmofbaaGreatDoorMem
import Derived.Test.YtfmjdlogjmofbaaGreatDoorLat
import Derived.Test.YtfmjdlogjmofbaaGreatDoorKd
import Derived.Test.YtfmjdlogjmofbaaGreatDoorW
set_option maxRecDepth 3000
namespace Go.Proofs.YtfmjdlogjmofbaaGreatDoor
open Go.RowKit Limb Det
instance cone_i8 : COne Tryz.prog 201 := ⟨⟨_, Tryz.underlying201, rfl, by kernel_rfl⟩⟩
instance cslice_i8s : CSlice Tryz.prog 22 201 := ⟨Tryz.underlying22⟩
instance celem_i8s : CElem Tryz.prog 22 201 1 := ⟨Tryz.underlying22, by kernel_rfl⟩
instance cone_i8s : COne Tryz.prog 22 := ⟨⟨_, Tryz.underlying22, rfl, by kernel_rfl⟩⟩
instance cint_i8 : CInt Tryz.prog 201 .i8 := ⟨Tryz.underlying201⟩
instance crow_tape : CRow Tryz.prog 107 2 := ⟨⟨_, Tryz.underlying107, rfl, by kernel_rfl⟩⟩
instance qZN : CField Tryz.prog 107 0 0 := ⟨⟨_, _, Tryz.underlying107, rfl, rfl, by kernel_rfl⟩⟩
instance qZM : CField Tryz.prog 107 1 1 := ⟨⟨_, _, Tryz.underlying107, rfl, rfl, by kernel_rfl⟩⟩
instance cbody120 : CBody Tryz.prog 120 := ⟨⟨_, Tryz.func120, rfl, by rfl⟩⟩
instance cbody57 : CBody Tryz.prog 57 := ⟨⟨_, Tryz.func57, rfl, by rfl⟩⟩
instance cbody58 : CBody Tryz.prog 58 := ⟨⟨_, Tryz.func58, rfl, by rfl⟩⟩
instance cbody55 : CBody Tryz.prog 55 := ⟨⟨_, Tryz.func55, rfl, by rfl⟩⟩
instance cbody56 : CBody Tryz.prog 56 := ⟨⟨_, Tryz.func56, rfl, by rfl⟩⟩
def tpL (f : Nat → Int) (N : Nat) : Pd := slc 1 (outL (fun a => ex (.int .i8 (f a))) N) N
instance (f : Nat → Int) (N : Nat) : CLen (tpL f N) N := by unfold tpL; exact inferInstance
instance (f : Nat → Int) (N : Nat) : C1 (tpL f N) := by unfold tpL; exact inferInstance
def tpc (f : Nat → Int) (N p : Nat) : List Pd := [tpL f N, ex (.int .i64 ((min p N : Nat) : Int))]
def gt (f : Nat → Int) (N p : Nat) : Int := if p < N then f p else 0
def bl (f : Nat → Int) (N p most : Nat) : Nat := (gt f N p % 256).toNat % most
structure Tp (f : Nat → Int) (N : Nat) : Prop where
 len : N < 9223372036854775808
 lo : ∀ a, -128 ≤ f a
 hi : ∀ a, f a < 128
theorem Tp.gt {f : Nat → Int} {N : Nat} (h : Tp f N) (p : Nat) : -128 ≤ gt f N p ∧ gt f N p < 128 := by
 unfold Go.Proofs.YtfmjdlogjmofbaaGreatDoor.gt
 split
 ·exact ⟨h.lo _, h.hi _⟩
 ·omega
section
variable (En : Ev)
theorem mnext (f : Nat → Int) (N p : Nat) (hT : Tp f N) : FnG Tryz.prog En 120 [.ptr 1000 0] [(1000, tpc f N p)] (.one (ex (.int .i64 (gt f N p)))) [(1000, tpc f N (p + 1))] := by
 have hN := hT.len
 unfold tpc gt
 by_cases h : p < N
 ·rw [Nat.min_eq_left oM, Nat.min_eq_left oM, if_pos h]
  have hx : ((outL (fun a => ex (.int .i8 (f a))) N).drop (p * 1)).take 1 = [ex (.int .i8 (f p))] := bZT (e := fun a => [ex (.int .i8 (f a))]) (fun _ _ => rfl) h
  have e1 : IntKind.i64.wrap (((p + 1 : Nat) : Int) - 1) = (p : Int) := by rw [w64 oM oM]; omega
  have l1 := hT.lo p
  have l2 := hT.hi p
  refine aZr Tryz.func120 rfl Tryz.ntmps120 rfl ?_
  intro w0 h0 c
  refine js<|jr<|ja jj<|jn<|js<|js<|jr<|jm jj<|jS (aZe jj)<|jF jj jj<|jl jj jj jj<|jm jj<|jS (aZe jj)<|jF jj jj<|jl jj jj jj<|jE jj<|jS (bHf jj jj)<|jn<|jf jj<|jp<|js<|jr<|jm jj<|jS (aZe jj)<|jF jj jj<|jl jj jj jj<|jS (bAd jj jj wO)<|jS (aZe jj)<|jF jj jj<|jO (fZi jj jj jj jj jj)<|jn<|js<|jr<|jm jj<|jS (aZe jj)<|jF jj jj<|jl jj jj jj<|jm jj<|jS (aZe jj)<|jF jj jj<|jl jj jj jj<|jS (bSu jj jj e1)<|jS (aZm jj jj aO aM)<|jS (aZh jj jj)<|jS (bCv jj wO)<|ja jj<|jn ?_
  refine ji ?_
  exact dZm rfl rfl (PLe.refl _) trivial ⟨.inl pQ, trivial⟩
 ·rw [Nat.min_eq_right oM, Nat.min_eq_right oM, if_neg h]
  refine aZr Tryz.func120 rfl Tryz.ntmps120 rfl ?_
  intro w0 h0 c
  refine js<|jr<|ja jj<|jn<|js<|js<|jr<|jm jj<|jS (aZe jj)<|jF jj jj<|jl jj jj jj<|jm jj<|jS (aZe jj)<|jF jj jj<|jl jj jj jj<|jE jj<|jS (bHt jj jj)<|jn<|jt jj<|js<|jr<|ja jj<|jn<|ji ?_
  exact dZm rfl rfl (PLe.refl _) trivial ⟨.inl pQ, trivial⟩
theorem jZS (f : Nat → Int) (N p most : Nat) (hT : Tp f N) (hm : 1 ≤ most) (hm2 : most ≤ 1000) : FnG Tryz.prog En 57 [.ptr 1000 0, .one (ex (.int .i64 (most : Int)))] [(1000, tpc f N p)] (.one (ex (.int .i64 ((bl f N p most : Nat) : Int)))) [(1000, tpc f N (p + 1))] := by
 have C1 := mnext En f N p hT
 obtain ⟨l1, l2⟩ := hT.gt p
 have e1 : IntKind.u8.wrap (gt f N p) = (((gt f N p % 256).toNat : Nat) : Int) := by
  have : IntKind.u8.wrap (gt f N p) = gt f N p % 256 := by rw [IntKind.wrap_u8]
  rw [this]; omega
 have e2 : ((((gt f N p % 256).toNat : Nat) : Int)).tmod (most : Int) = ((bl f N p most : Nat) : Int) := by
  unfold bl
  rw [← Int.ofNat_tmod]
 refine aZr Tryz.func57 rfl Tryz.ntmps57 rfl ?_
 intro w0 h0 c
 refine js<|jr<|ja jj<|jn<|js<|jr<|jm jj<|jT (aZT (fun _ => 1000) C1 ⟨⟨jj, Option.some_ne_none _⟩, trivial⟩ tA jj jj jj)<|jS (bCv jj e1)<|jS (bCv jj wO)<|jm jj<|jS (bRe jj jj e2)<|ja jj<|jn<|ji ?_
 exact dZm rfl rfl (PLe.refl _) trivial ⟨.inl pQ, trivial⟩
def dgM (f : Nat → Int) (N p most : Nat) : Nat → Nat → Int := fun i j => if i = j then 1 + ((bl f N (p + i) most : Nat) : Int) else 0
theorem hZc (f : Nat → Int) (N p : Nat) {most : Nat} (h : 1 ≤ most) : bl f N p most < most := Nat.mod_lt _ oM
theorem gZP {n i : Nat} (hi : i < n) (v : Int) : (List.replicate n ([.int .i64 0].map ex)).flatten.set (i * 1) (ex (.int .i64 v)) = outL (fun j => if j = i then ex (.int .i64 v) else ex (.int .i64 0)) n := by
 rw [bZ9, Nat.mul_one]
 exact dZz (g := fun _ => ex (.int .i64 0)) hi
theorem gZQ (n : Nat) : (List.replicate n ([.int .i64 0].map ex)).flatten.length = n := by
 rw [bZ9]
 exact bZc (fun _ => ex (.int .i64 0)) n
theorem mdiagX (f : Nat → Int) (N p n most : Nat) (hT : Tp f N) (hn8 : n ≤ 8) (hm : 1 ≤ most) (hm2 : most ≤ 1000) : FnG Tryz.prog En 58 [.ptr 1000 0, .one (ex (.int .i64 (n : Int))), .one (ex (.int .i64 (most : Int)))] [(1000, tpc f N p)] (.own 400 0 n n) ([(1000, tpc f N (p + n))] ++ mbx 400 200 (fun i => i) n n (aZy (dgM f N p most) n n)) := by
 refine aZr Tryz.func58 rfl Tryz.ntmps58 rfl ?_
 intro w0 h0 c
 refine js<|jr<|ja jj<|jn<|js<|jr<|jm jj<|jT (bZ7 jj jj jj jj oM jj jj)<|ja jj<|jn<|js<|js<|jr<|jm jj<|jS (aZE jj CSlice.ok)<|jm jj<|jn<|jb ?_
 refine WpD.loop (α := {i : Nat // i ≤ n}) (fun i => ⟨[(0, .ptr 1000 0), (1, .one (ex (.int .i64 (n : Int)))), (2, .one (ex (.int .i64 (most : Int)))), (7, .own 400 0 n n), (12, .one (ex (.int .i64 (n : Int)))), (13, .one (ex (.int .i64 (i.1 : Int))))], (400, outL (zout 200 i.1 n) n) :: (rws 200 (aZy (dgM f N p most) i.1 n) ++ [(1000, tpc f N (p + i.1))])⟩) (fun i => n - i.1) ⟨0, Nat.zero_le _⟩ ?_ ?_
 ·dsimp only
  refine Sub.mv 400 10 oM oM oM ⟨pM, pK, pK, ⟨_, rfl, aZF _ _, rfl, rfl, rfl, js0 rfl⟩, pK, pK, trivial⟩ ⟨BMv.to rfl rfl uG oM oM (congrArg some (bZ9 [ex (.slice none 0 0)] n)) (fun i _ => ⟨PLe.refl _, by unfold zout; rw [if_neg oM]; exact inferInstance⟩), mvBx.fam (fun j _ => .inl (aZo oM)) ⟨bK, trivial⟩⟩
 rintro ⟨i, hi⟩
 dsimp only
 by_cases hin : i < n
 ·have C1 := jZS En f N (p + i) most hT hm hm2
  have hb := hZc f N (p + i) hm
  have e1 : IntKind.i64.wrap (1 + ((bl f N (p + i) most : Nat) : Int)) = 1 + ((bl f N (p + i) most : Nat) : Int) := w64 oM oM
  refine js<|jr<|jS (bLt jj jj)<|jn<|js<|jt jj<|jp<|js<|jb<|js<|jr<|jm jj<|ja jj<|jn<|js<|jr<|jm jj<|jm jj<|jm jj<|jT (bZ7 jj jj jj jj oM jj jj)<|jS (aZd jj jj aO)<|jO (bZw jj jj jj aO aG)<|jn<|jr<|jm jj<|jm jj<|jS (aZd jj jj aO) ?_
  refine jS (aZt jj jj hin (if_pos jj) uG)<|jm jj<|jm jj<|jm jj<|jT (aZT (fun _ => 1000) C1 ⟨⟨jj, Option.some_ne_none _⟩, jj, trivial⟩ tA jj jj jj)<|jS (bAd jj jj e1)<|jS (aZd jj jj aO)<|jO (aZK jj jj jj (by rw [gZQ, Nat.mul_one]; exact hin) (gZP hin _))<|jn<|jr<|jS (bAd jj jj wO)<|jm jj<|jn ?_
  refine ⟨⟨i + 1, oM⟩, ?_, oD⟩
  dsimp only
  refine Sub.mv (200 + i) 19 oM oM oM ⟨pM, pK, pK, ⟨_, rfl, aZ7 oM oM, rfl, rfl, rfl, js0 rfl⟩, pK, pK, trivial⟩ ⟨BMv.out rfl oM oM uG rfl (cZB oM oM oM hn8 (Fam.live fFm)), mvBx.famA fFm oM oM oM oM (fun j _ hj => PsLe.of ?_) rfl (PsLe.of ?_) ⟨bK, trivial⟩⟩ rfl ?_
  ·by_cases h : j < i
   ·rw [aZl h, aZl oM]
   ·rw [aZo h, aZo oM]
  ·rw [aZl oM]
   refine aZu fun j _ => ?_
   unfold dgM
   by_cases h : j = i
   ·rw [if_pos h, if_pos h.symm]
   ·rw [if_neg h, if_neg fun e => h e.symm]
  ·dsimp only
   rw [aZc, if_neg oM, bZV, if_neg oM, aZc, if_neg oM]; rfl
 ·have e : i = n := oM
  subst e
  refine js<|jr<|jS (bLf jj jj)<|jn<|js<|jf jj<|je<|js<|jr<|jm jj<|ja jj<|jn<|ji ?_
  refine dZm rfl rfl (SLe.rfl' _) (js0 rfl) ⟨.inl pQ, .inl ⟨_, rfl, PsLe.of (dZv ..)⟩, subBx.fam fFm (fun _ _ => PsLe.refl _) trivial⟩ (LKeep.all ⟨.inl rfl, .inr (aZp (d := 200) (Fam.live fFm) oM oM), lkAll.fam rfl trivial⟩)
theorem mdiag (f : Nat → Int) (N p n most : Nat) (hT : Tp f N) (hn8 : n ≤ 8) (hm : 1 ≤ most) (hm2 : most ≤ 1000) : FnG Tryz.prog En 58 [.ptr 1000 0, .one (ex (.int .i64 (n : Int))), .one (ex (.int .i64 (most : Int)))] [(1000, tpc f N p)] (.one (imt (dgM f N p most) n n)) [(1000, tpc f N (p + n))] := by
 refine aZr Tryz.func58 rfl Tryz.ntmps58 rfl ?_
 intro w0 h0 c
 refine js<|jr<|ja jj<|jn<|js<|jr<|jm jj<|jT (bZ7 jj jj jj jj oM jj jj)<|ja jj<|jn<|js<|js<|jr<|jm jj<|jS (aZE jj CSlice.ok)<|jm jj<|jn<|jb ?_
 refine WpD.loop (α := {i : Nat // i ≤ n}) (fun i => ⟨[(0, .ptr 1000 0), (1, .one (ex (.int .i64 (n : Int)))), (2, .one (ex (.int .i64 (most : Int)))), (7, .own 400 0 n n), (12, .one (ex (.int .i64 (n : Int)))), (13, .one (ex (.int .i64 (i.1 : Int))))], (400, outL (zout 200 i.1 n) n) :: (rws 200 (aZy (dgM f N p most) i.1 n) ++ [(1000, tpc f N (p + i.1))])⟩) (fun i => n - i.1) ⟨0, Nat.zero_le _⟩ ?_ ?_
 ·dsimp only
  refine Sub.mv 400 10 oM oM oM ⟨pM, pK, pK, ⟨_, rfl, aZF _ _, rfl, rfl, rfl, js0 rfl⟩, pK, pK, trivial⟩ ⟨BMv.to rfl rfl uG oM oM (congrArg some (bZ9 [ex (.slice none 0 0)] n)) (fun i _ => ⟨PLe.refl _, by unfold zout; rw [if_neg oM]; exact inferInstance⟩), mvBx.fam (fun j _ => .inl (aZo oM)) ⟨bK, trivial⟩⟩
 rintro ⟨i, hi⟩
 dsimp only
 by_cases hin : i < n
 ·have C1 := jZS En f N (p + i) most hT hm hm2
  have hb := hZc f N (p + i) hm
  have e1 : IntKind.i64.wrap (1 + ((bl f N (p + i) most : Nat) : Int)) = 1 + ((bl f N (p + i) most : Nat) : Int) := w64 oM oM
  refine js<|jr<|jS (bLt jj jj)<|jn<|js<|jt jj<|jp<|js<|jb<|js<|jr<|jm jj<|ja jj<|jn<|js<|jr<|jm jj<|jm jj<|jm jj<|jT (bZ7 jj jj jj jj oM jj jj)<|jS (aZd jj jj aO)<|jO (bZw jj jj jj aO aG)<|jn<|jr<|jm jj<|jm jj<|jS (aZd jj jj aO) ?_
  refine jS (aZt jj jj hin (if_pos jj) uG)<|jm jj<|jm jj<|jm jj<|jT (aZT (fun _ => 1000) C1 ⟨⟨jj, Option.some_ne_none _⟩, jj, trivial⟩ tA jj jj jj)<|jS (bAd jj jj e1)<|jS (aZd jj jj aO)<|jO (aZK jj jj jj (by rw [gZQ, Nat.mul_one]; exact hin) (gZP hin _))<|jn<|jr<|jS (bAd jj jj wO)<|jm jj<|jn ?_
  refine ⟨⟨i + 1, oM⟩, ?_, oD⟩
  dsimp only
  refine Sub.mv (200 + i) 19 oM oM oM ⟨pM, pK, pK, ⟨_, rfl, aZ7 oM oM, rfl, rfl, rfl, js0 rfl⟩, pK, pK, trivial⟩ ⟨BMv.out rfl oM oM uG rfl (cZB oM oM oM hn8 (Fam.live fFm)), mvBx.famA fFm oM oM oM oM (fun j _ hj => PsLe.of ?_) rfl (PsLe.of ?_) ⟨bK, trivial⟩⟩ rfl ?_
  ·by_cases h : j < i
   ·rw [aZl h, aZl oM]
   ·rw [aZo h, aZo oM]
  ·rw [aZl oM]
   refine aZu fun j _ => ?_
   unfold dgM
   by_cases h : j = i
   ·rw [if_pos h, if_pos h.symm]
   ·rw [if_neg h, if_neg fun e => h e.symm]
  ·dsimp only
   rw [aZc, if_neg oM, bZV, if_neg oM, aZc, if_neg oM]; rfl
 ·have e : i = n := oM
  subst e
  refine js<|jr<|jS (bLf jj jj)<|jn<|js<|jf jj<|je<|js ?_
  refine WpD.sub (τ := ⟨[(7, .one (imt (dgM f N p most) i i))], [(1000, tpc f N (p + i))]⟩) (Sub.pubX 400 200 (fun a c => [ex (.int .i64 (dgM f N p most a c))]) (π := fun i => i) (congrArg some (dZv ..)) fFm rfl oM (fun r hr => aZl hr) (fun _ _ _ _ => rfl) ⟨.inr ⟨rfl, rfl⟩, trivial⟩ ⟨.inl pQ, trivial⟩ rfl) ?_
  refine kO ?_
  refine jr<|jm jj<|ja jj<|jn<|ji ?_
  exact dZm rfl rfl (PLe.refl _) trivial ⟨.inl pQ, trivial⟩
def tri : Nat → Nat
 | 0 => 0
 | i + 1 => tri i + i
def gO (f : Nat → Int) (N p i j : Nat) : Int := (gt f N (p + tri i + j)).tmod 3
def gnP (f : Nat → Int) (N p n i j : Nat) : Nat → Nat → Int := fun r c => if r = c then 1 + ((bl f N (p + r) 6 : Nat) : Int) else if c < r then (if r < i ∨ r = i ∧ c < j then gO f N (p + n) r c else 0) else (if c < i ∨ c = i ∧ r < j then gO f N (p + n) c r else 0)
def gnM (f : Nat → Int) (N p n : Nat) : Nat → Nat → Int := gnP f N p n n 0
theorem oZ8 (f : Nat → Int) (N p n : Nat) (hT : Tp f N) (hn8 : n ≤ 8) : FnG Tryz.prog En 55 [.ptr 1000 0, .one (ex (.int .i64 (n : Int)))] [(1000, tpc f N p)] (.one (imt (gnM f N p n) n n)) [(1000, tpc f N (p + n + tri n))] := by
 have CD := mdiagX En f N p n 6 hT hn8 oM oM
 refine aZr Tryz.func55 rfl Tryz.ntmps55 rfl ?_
 intro w0 h0 c
 refine js<|jr<|ja jj<|jn<|js<|jr<|jm jj<|jm jj<|RG.SW (LT.plain jj (lZM 400 200 (fun _ => 1000) CD (by exact ⟨⟨jj, Option.some_ne_none _⟩, jj, jj, trivial⟩) (by exact tA) (by rfl) (by intro i hi; omega) (by rfl) (by rfl) (by rfl))) jj<|ja jj<|jn<|js<|js<|jr<|jm jj<|jS (aZE jj CSlice.ok)<|jm jj<|jn<|jb ?_
 refine WpD.loop (α := {i : Nat // i ≤ n}) (fun i => ⟨[(0, .ptr 1000 0), (5, .own 400 0 n n), (12, .one (ex (.int .i64 (n : Int)))), (13, .one (ex (.int .i64 (i.1 : Int))))], (400, outL (fun j => ownP (200 + j) 0 n n) n) :: (rws 200 (aZy (gnP f N p n i.1 0) n n) ++ [(1000, tpc f N (p + n + tri i.1))])⟩) (fun i => n - i.1) ⟨0, Nat.zero_le _⟩ ?_ ?_
 ·dsimp only
  refine Sub.mk ?_ ⟨.inl pQ, subBx.fam fFm (fun r _ => PsLe.of (congrFun (bZy fun a b _ _ => ?_) r)) ⟨.inl pQ, trivial⟩⟩ (LKeep.all ⟨.inr (aZp (π := fun i => i) (Fam.live fFm) oM oM), lkAll.fam rfl ⟨.inl rfl, trivial⟩⟩)
  ·repeat (first | exact trivial | refine jv rfl ?_ | refine jw rfl (js0 rfl) ?_)
  ·unfold dgM gnP
   by_cases h : a = b
   ·rw [if_pos h, if_pos h]
   ·rw [if_neg h, if_neg h]
    by_cases h4 : b < a
    ·rw [if_pos h4, if_neg oM]
    ·rw [if_neg h4, if_neg oM]
 rintro ⟨i, hi⟩
 dsimp only
 by_cases hin : i < n
 ·refine js<|jr<|jS (bLt jj jj)<|jn<|js<|jt jj<|jp<|js<|jb<|js<|jr<|jm jj<|ja jj<|jn<|js<|jr<|ja jj<|jn<|jb ?_
  refine WpD.loop (α := {j : Nat // j ≤ i}) (fun j => ⟨[(0, .ptr 1000 0), (5, .own 400 0 n n), (6, .one (ex (.int .i64 (i : Int)))), (7, .one (ex (.int .i64 (j.1 : Int)))), (12, .one (ex (.int .i64 (n : Int)))), (13, .one (ex (.int .i64 (i : Int))))], (400, outL (fun j => ownP (200 + j) 0 n n) n) :: (rws 200 (aZy (gnP f N p n i j.1) n n) ++ [(1000, tpc f N (p + n + tri i + j.1))])⟩) (fun j => i - j.1) ⟨0, Nat.zero_le _⟩ ?_ ?_
  ·dsimp only
   exact Sub.mk sJ ⟨.inl pQ, subBx.fam fFm (fun r _ => PsLe.of rfl) ⟨.inl pQ, trivial⟩⟩ (LKeep.all ⟨.inr (aZp (π := fun i => i) (Fam.live fFm) oM oM), lkAll.fam rfl ⟨.inl rfl, trivial⟩⟩)
  rintro ⟨j, hj⟩
  dsimp only
  by_cases hjl : j < i
  ·have C1 := mnext En f N (p + n + tri i + j) hT
   have he : aZy (gnP f N p n i j) n n i = outL (fun c => ex (.int .i64 (gnP f N p n i j i c))) n := aZl hin
   have hj' : j < n := oM
   have ex1 : aZy (gnP f N p n i j) n n j = outL (fun c => ex (.int .i64 (gnP f N p n i j j c))) n := aZl hj'
   have hs1 := dZk (A := gnP f N p n i j) (n := n) (m := n) (r := i) (c := j) (v := gO f N (p + n) i j) hin
   have he2 : updF (aZy (gnP f N p n i j) n n) i (outL (fun c => if c = j then ex (.int .i64 (gO f N (p + n) i j)) else ex (.int .i64 (gnP f N p n i j i c))) n) i = outL (fun c => ex (.int .i64 (upm (gnP f N p n i j) i j (gO f N (p + n) i j) i c))) n := by rw [hs1]; exact aZl hin
   have he3 : updF (aZy (gnP f N p n i j) n n) i (outL (fun c => if c = j then ex (.int .i64 (gO f N (p + n) i j)) else ex (.int .i64 (gnP f N p n i j i c))) n) j = outL (fun c => ex (.int .i64 (upm (gnP f N p n i j) i j (gO f N (p + n) i j) j c))) n := by rw [hs1]; exact aZl hj'
   have hv : upm (gnP f N p n i j) i j (gO f N (p + n) i j) i j = gO f N (p + n) i j := by unfold upm; rw [if_pos ⟨rfl, rfl⟩]
   refine js<|js<|jr<|jm jj<|jm jj<|jS (bLt jj jj)<|jn<|jt jj<|jp<|js<|jb<|js<|jr<|jm jj<|jm jj<|jS (aZd jj jj aO) ?_
   refine jS (aZt jj jj aO jj aG)<|jm jj<|jm jj<|jT (aZT (fun _ => 1000) C1 ⟨⟨jj, Option.some_ne_none _⟩, trivial⟩ tA jj jj jj)<|jS (aZ6 jj jj (fun w => cZz w _ _ _ _ _ _ aW))<|jS (aZd jj jj aO)<|RG.NW (LT.plain jj (bZO (q := ex (.int .i64 (gO f N (p + n) i j))) jj jj fFm oM he hj')) jj ?_
   refine jn<|jr<|jm jj<|jm jj<|jS (aZd jj jj aO) ?_
   refine jS (aZt jj jj aO jj aG)<|jm jj<|jm jj<|jm jj<|jS (aZd jj jj aO) ?_
   refine jS (aZt jj jj aO jj aG)<|jm jj<|jS (aZd jj jj aO)<|jS (aZ8 (r := i) jj fFm oM he2 hj') ?_
   refine jS (aZd jj jj aO)<|RG.NW (LT.plain jj (bZO (r := j) jj jj fFm oM he3 hin)) jj ?_
   refine jn<|jr<|jm jj<|jS (bAd jj jj wO)<|ja jj<|jn ?_
   refine ⟨⟨j + 1, oM⟩, ?_, oD⟩
   dsimp only
   rw [hv]
   refine Sub.mk ?_ ⟨.inl pQ, subBx.fam fFm (fun r _ => PsLe.of ?_) ⟨.inl pQ, trivial⟩⟩ (LKeep.all ⟨.inr (aZp (π := fun i => i) (Fam.live fFm) oM oM), lkAll.fam rfl ⟨.inl rfl, trivial⟩⟩)
   ·repeat (first | exact trivial | refine jv rfl ?_ | refine jw rfl (js0 rfl) ?_)
   ·refine congrFun ((congrArg (fun F => updF F j _) hs1).trans ((dZk hj').trans (bZy fun a b _ _ => ?_))) r
    unfold upm
    by_cases h1 : a = j ∧ b = i
    ·obtain ⟨rfl, rfl⟩ := h1
     rw [if_pos ⟨rfl, rfl⟩]
     unfold gnP
     rw [if_neg oM, if_neg oM, if_pos oM]
    ·rw [if_neg h1]
     by_cases h2 : a = i ∧ b = j
     ·obtain ⟨rfl, rfl⟩ := h2
      rw [if_pos ⟨rfl, rfl⟩]
      unfold gnP
      rw [if_neg oM, if_pos oM, if_pos oM]
     ·rw [if_neg h2]
      unfold gnP
      by_cases h3 : a = b
      ·rw [if_pos h3, if_pos h3]
      ·rw [if_neg h3, if_neg h3]
       by_cases h4 : b < a
       ·rw [if_pos h4, if_pos h4]
        by_cases h5 : a < i ∨ a = i ∧ b < j
        ·rw [if_pos h5, if_pos oM]
        ·rw [if_neg h5, if_neg oM]
       ·rw [if_neg h4, if_neg h4]
        by_cases h5 : b < i ∨ b = i ∧ a < j
        ·rw [if_pos h5, if_pos oM]
        ·rw [if_neg h5, if_neg oM]
  ·have e : j = i := oM
   subst e
   refine js<|js<|jr<|jm jj<|jm jj<|jS (bLf jj jj)<|jn<|jf jj<|je<|jr<|jS (bAd jj jj wO)<|jm jj<|jn ?_
   refine ⟨⟨j + 1, oM⟩, ?_, oD⟩
   dsimp only
   refine Sub.mk ?_ ⟨.inl pQ, subBx.fam fFm (fun r _ => PsLe.of (congrFun (bZy fun a b _ _ => ?_) r)) ⟨.inl ⟨_, rfl, PsLe.of (by rw [tri, Nat.add_assoc (p + n)])⟩, trivial⟩⟩ (LKeep.all ⟨.inr (aZp (π := fun i => i) (Fam.live fFm) oM oM), lkAll.fam rfl ⟨.inl rfl, trivial⟩⟩)
   ·repeat (first | exact trivial | refine jv rfl ?_ | refine jw rfl (js0 rfl) ?_)
   ·unfold gnP
    by_cases h3 : a = b
    ·rw [if_pos h3, if_pos h3]
    ·rw [if_neg h3, if_neg h3]
     by_cases h4 : b < a
     ·rw [if_pos h4, if_pos h4]
      by_cases h5 : a < j ∨ a = j ∧ b < j
      ·rw [if_pos h5, if_pos oM]
      ·rw [if_neg h5, if_neg oM]
     ·rw [if_neg h4, if_neg h4]
      by_cases h5 : b < j ∨ b = j ∧ a < j
      ·rw [if_pos h5, if_pos oM]
      ·rw [if_neg h5, if_neg oM]
 ·have e : i = n := oM
  subst e
  refine js<|jr<|jS (bLf jj jj)<|jn<|js<|jf jj<|je<|js ?_
  refine WpD.sub (τ := ⟨[(5, .one (imt (gnM f N p i) i i))], [(1000, tpc f N (p + i + tri i))]⟩) (Sub.pubX 400 200 (fun a c => [ex (.int .i64 (gnM f N p i a c))]) (π := fun i => i) rfl fFm rfl oM (fun r hr => aZl hr) (fun _ _ _ _ => rfl) ⟨.inr ⟨rfl, rfl⟩, trivial⟩ ⟨.inl pQ, trivial⟩ rfl) ?_
  refine kO ?_
  refine jr<|jm jj<|ja jj<|jn<|ji ?_
  exact dZm rfl rfl (PLe.refl _) trivial ⟨.inl pQ, trivial⟩
end
end Go.Proofs.YtfmjdlogjmofbaaGreatDoor

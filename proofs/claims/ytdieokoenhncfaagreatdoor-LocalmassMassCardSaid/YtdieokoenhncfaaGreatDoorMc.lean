/- The types of symbols and species. -/
import Derived.Test.YtdieokoenhncfaaGreatDoorRb
import Derived.Test.YtdieokoenhncfaaGreatDoorQ
import Derived.Test.YtdieokoenhncfaaGreatDoorMem
import Derived.Test.YtdieokoenhncfaaGreatDoorMp
import Derived.Test.YtdieokoenhncfaaGreatDoorG
import Derived.OpenShut
import Derived.Deep.QuietTactic
import Derived.BigQuiet
set_option maxRecDepth 3000
namespace Go.Proofs.YtdieokoenhncfaaGreatDoor
open Go.RowKit Limb
instance cone_int : COne Tryz.prog 3 := ⟨⟨_, Tryz.underlying3, rfl, by kernel_rfl⟩⟩
instance cone_int64 : COne Tryz.prog 2 := ⟨⟨_, Tryz.underlying2, rfl, by kernel_rfl⟩⟩
instance mZR : CRow Tryz.prog 47 2 := ⟨⟨_, Tryz.underlying47, rfl, by kernel_rfl⟩⟩
instance kZw : CField Tryz.prog 47 0 0 := ⟨⟨_, _, Tryz.underlying47, rfl, rfl, by kernel_rfl⟩⟩
instance iZA : CFieldT Tryz.prog 47 0 0 3 := ⟨⟨_, _, Tryz.underlying47, rfl, rfl, rfl⟩⟩
instance kZv : CField Tryz.prog 47 1 1 := ⟨⟨_, _, Tryz.underlying47, rfl, rfl, by kernel_rfl⟩⟩
instance iZ9 : CFieldT Tryz.prog 47 1 1 3 := ⟨⟨_, _, Tryz.underlying47, rfl, rfl, rfl⟩⟩
theorem dZ7 : bZO Tryz.prog 47 [.int .i64 0, .int .i64 0] := ⟨by kernel_rfl, by simp [Value.oneCell']⟩
instance lZB : CZero Tryz.prog 47 [.int .i64 0, .int .i64 0] := ⟨dZ7⟩
instance kZo : CStruct Tryz.prog 47 [(0, 1), (1, 1)] [.int .i64 0, .int .i64 0] := ⟨⟨dZ7, _, Tryz.underlying47, fun _ => by kernel_rfl⟩⟩
instance crow_cons : CRow Tryz.prog 53 5 := ⟨⟨_, Tryz.underlying53, rfl, by kernel_rfl⟩⟩
instance nZh : CField Tryz.prog 53 0 0 := ⟨⟨_, _, Tryz.underlying53, rfl, rfl, by kernel_rfl⟩⟩
instance lZS : CFieldT Tryz.prog 53 0 0 3 := ⟨⟨_, _, Tryz.underlying53, rfl, rfl, rfl⟩⟩
instance nZg : CField Tryz.prog 53 1 1 := ⟨⟨_, _, Tryz.underlying53, rfl, rfl, by kernel_rfl⟩⟩
instance lZR : CFieldT Tryz.prog 53 1 1 3 := ⟨⟨_, _, Tryz.underlying53, rfl, rfl, rfl⟩⟩
instance nZf : CField Tryz.prog 53 2 2 := ⟨⟨_, _, Tryz.underlying53, rfl, rfl, by kernel_rfl⟩⟩
instance lZQ : CFieldT Tryz.prog 53 2 2 3 := ⟨⟨_, _, Tryz.underlying53, rfl, rfl, rfl⟩⟩
instance nZe : CField Tryz.prog 53 3 3 := ⟨⟨_, _, Tryz.underlying53, rfl, rfl, by kernel_rfl⟩⟩
instance lZP : CFieldT Tryz.prog 53 3 3 4 := ⟨⟨_, _, Tryz.underlying53, rfl, rfl, rfl⟩⟩
instance nZd : CField Tryz.prog 53 4 4 := ⟨⟨_, _, Tryz.underlying53, rfl, rfl, by kernel_rfl⟩⟩
instance lZO : CFieldT Tryz.prog 53 4 4 3 := ⟨⟨_, _, Tryz.underlying53, rfl, rfl, rfl⟩⟩
theorem fZH : bZO Tryz.prog 53 [.int .i64 0, .int .i64 0, .int .i64 0, .bool false, .int .i64 0] := ⟨by kernel_rfl, by simp [Value.oneCell']⟩
instance czero_cons : CZero Tryz.prog 53 [.int .i64 0, .int .i64 0, .int .i64 0, .bool false, .int .i64 0] := ⟨fZH⟩
instance mZO : CStruct Tryz.prog 53 [(0, 1), (1, 1), (2, 1), (3, 1), (4, 1)] [.int .i64 0, .int .i64 0, .int .i64 0, .bool false, .int .i64 0] := ⟨⟨fZH, _, Tryz.underlying53, fun _ => by kernel_rfl⟩⟩
instance cslice_cons : CSlice Tryz.prog 22 53 := ⟨Tryz.underlying22⟩
instance celem_cons : CElem Tryz.prog 22 53 5 := ⟨Tryz.underlying22, by kernel_rfl⟩
instance cone_conss : COne Tryz.prog 22 := ⟨⟨_, Tryz.underlying22, rfl, by kernel_rfl⟩⟩
instance crowz_cons : CRowZ Tryz.prog 53 5 [.int .i64 0, .int .i64 0, .int .i64 0, .bool false, .int .i64 0] 40 := ⟨by kernel_rfl, rfl, rfl⟩
instance crow_local : CRow Tryz.prog 24 2 := ⟨⟨_, Tryz.underlying24, rfl, by kernel_rfl⟩⟩
instance lZU : CField Tryz.prog 24 0 0 := ⟨⟨_, _, Tryz.underlying24, rfl, rfl, by kernel_rfl⟩⟩
instance kZA : CFieldT Tryz.prog 24 0 0 2 := ⟨⟨_, _, Tryz.underlying24, rfl, rfl, rfl⟩⟩
instance lZT : CField Tryz.prog 24 1 1 := ⟨⟨_, _, Tryz.underlying24, rfl, rfl, by kernel_rfl⟩⟩
instance kZ9 : CFieldT Tryz.prog 24 1 1 22 := ⟨⟨_, _, Tryz.underlying24, rfl, rfl, rfl⟩⟩
theorem eZ5 : bZO Tryz.prog 24 [.int .i64 0, .slice none 0 0] := ⟨by kernel_rfl, by simp [Value.oneCell']⟩
instance czero_local : CZero Tryz.prog 24 [.int .i64 0, .slice none 0 0] := ⟨eZ5⟩
instance lZC : CStruct Tryz.prog 24 [(0, 1), (1, 1)] [.int .i64 0, .slice none 0 0] := ⟨⟨eZ5, _, Tryz.underlying24, fun _ => by kernel_rfl⟩⟩
instance crow_half : CRow Tryz.prog 38 5 := ⟨⟨_, Tryz.underlying38, rfl, by kernel_rfl⟩⟩
instance nZc : CField Tryz.prog 38 0 0 := ⟨⟨_, _, Tryz.underlying38, rfl, rfl, by kernel_rfl⟩⟩
instance lZN : CFieldT Tryz.prog 38 0 0 36 := ⟨⟨_, _, Tryz.underlying38, rfl, rfl, rfl⟩⟩
instance nZb : CField Tryz.prog 38 1 4 := ⟨⟨_, _, Tryz.underlying38, rfl, rfl, by kernel_rfl⟩⟩
instance lZM : CFieldT Tryz.prog 38 1 4 4 := ⟨⟨_, _, Tryz.underlying38, rfl, rfl, rfl⟩⟩
theorem fZG : bZO Tryz.prog 38 [.bool false, .slice none 0 0, .bool false, .slice none 0 0, .bool false] := ⟨by kernel_rfl, by simp [Value.oneCell']⟩
instance czero_half : CZero Tryz.prog 38 [.bool false, .slice none 0 0, .bool false, .slice none 0 0, .bool false] := ⟨fZG⟩
instance mZN : CStruct Tryz.prog 38 [(0, 4), (4, 1)] [.bool false, .slice none 0 0, .bool false, .slice none 0 0, .bool false] := ⟨⟨fZG, _, Tryz.underlying38, fun _ => by kernel_rfl⟩⟩
instance crow_mrow : CRow Tryz.prog 131 5 := ⟨⟨_, Tryz.underlying131, rfl, by kernel_rfl⟩⟩
instance nZa : CField Tryz.prog 131 0 0 := ⟨⟨_, _, Tryz.underlying131, rfl, rfl, by kernel_rfl⟩⟩
instance lZL : CFieldT Tryz.prog 131 0 0 4 := ⟨⟨_, _, Tryz.underlying131, rfl, rfl, rfl⟩⟩
instance mZZ : CField Tryz.prog 131 1 1 := ⟨⟨_, _, Tryz.underlying131, rfl, rfl, by kernel_rfl⟩⟩
instance lZK : CFieldT Tryz.prog 131 1 1 4 := ⟨⟨_, _, Tryz.underlying131, rfl, rfl, rfl⟩⟩
instance mZY : CField Tryz.prog 131 2 2 := ⟨⟨_, _, Tryz.underlying131, rfl, rfl, by kernel_rfl⟩⟩
instance lZJ : CFieldT Tryz.prog 131 2 2 3 := ⟨⟨_, _, Tryz.underlying131, rfl, rfl, rfl⟩⟩
instance mZX : CField Tryz.prog 131 3 3 := ⟨⟨_, _, Tryz.underlying131, rfl, rfl, by kernel_rfl⟩⟩
instance lZI : CFieldT Tryz.prog 131 3 3 3 := ⟨⟨_, _, Tryz.underlying131, rfl, rfl, rfl⟩⟩
instance mZW : CField Tryz.prog 131 4 4 := ⟨⟨_, _, Tryz.underlying131, rfl, rfl, by kernel_rfl⟩⟩
instance lZH : CFieldT Tryz.prog 131 4 4 3 := ⟨⟨_, _, Tryz.underlying131, rfl, rfl, rfl⟩⟩
theorem fZF : bZO Tryz.prog 131 [.bool false, .bool false, .int .i64 0, .int .i64 0, .int .i64 0] := ⟨by kernel_rfl, by simp [Value.oneCell']⟩
instance czero_mrow : CZero Tryz.prog 131 [.bool false, .bool false, .int .i64 0, .int .i64 0, .int .i64 0] := ⟨fZF⟩
instance mZM : CStruct Tryz.prog 131 [(0, 1), (1, 1), (2, 1), (3, 1), (4, 1)] [.bool false, .bool false, .int .i64 0, .int .i64 0, .int .i64 0] := ⟨⟨fZF, _, Tryz.underlying131, fun _ => by kernel_rfl⟩⟩
instance carr_mrow : CArr Tryz.prog 132 12 131 5 := ⟨Tryz.underlying132, by kernel_rfl⟩
instance crow_mtab : CRow Tryz.prog 132 60 := ⟨⟨_, Tryz.underlying132, rfl, by kernel_rfl⟩⟩
end Go.Proofs.YtdieokoenhncfaaGreatDoor
/- The diagonal factor: the program's and the reference's. -/
namespace Go.Proofs.YtdieokoenhncfaaGreatDoor
open Go.RowKit Limb Num
instance cbody29 : CBody Tryz.prog 29 := ⟨⟨_, Tryz.func29, rfl, by rfl⟩⟩
instance cbody70 : CBody Tryz.prog 70 := ⟨⟨_, Tryz.func70, rfl, by rfl⟩⟩
instance cbody38 : CBody Tryz.prog 38 := ⟨⟨_, Tryz.func38, rfl, by rfl⟩⟩
instance cbody32 : CBody Tryz.prog 32 := ⟨⟨_, Tryz.func32, rfl, by rfl⟩⟩
instance cbody75 : CBody Tryz.prog 75 := ⟨⟨_, Tryz.func75, rfl, by rfl⟩⟩
instance cbody76 : CBody Tryz.prog 76 := ⟨⟨_, Tryz.func76, rfl, by rfl⟩⟩
instance cbody40 : CBody Tryz.prog 40 := ⟨⟨_, Tryz.func40, rfl, by rfl⟩⟩
instance cbody143 : CBody Tryz.prog 143 := ⟨⟨_, Tryz.func143, rfl, by rfl⟩⟩
instance cbody46 : CBody Tryz.prog 46 := ⟨⟨_, Tryz.func46, rfl, by rfl⟩⟩
section
variable (En : Ev)
theorem eZj (a : Int) (h1 : -9223372036854775808 ≤ a) (h2 : a ≤ 9223372036854775807) : Fn Tryz.prog En 29 [ex (.int .i64 a)] (qC (a : Rat)) := by
 have C1 := gZe En a h1 h2
 have C2 := mZ9 En a (Nat.le_trans (cZl (by omega) (by omega)) (by omega))
 refine aZb Tryz.func29 rfl Tryz.ntmps29 rfl ?_
 intro w0 h0
 refine js (jr (jA jj jj jj (jn (js (jr (jm jj (jS (aZa C1 ⟨jj, trivial⟩) (jS (aZa C2 ⟨jj, trivial⟩) (jP jj jj jj jj (jn (ji ?_)))))))))))
 exact rtC rfl jj jj
theorem jZD (p c : Int) (e : Nat) (hp : 2 ≤ p) (hp2 : p ≤ 9973) (c1 : -1 ≤ c) (c2 : c ≤ 1) (he : 1 ≤ e) (he2 : e ≤ 10) : Fn Tryz.prog En 70 [ex (.int .i64 p), ex (.int .i64 c), ex (.int .i64 (e : Int))] (qC (fct p c e)) := by
 have hne : ((p : Int) : Rat) ≠ 0 := by intro h; have := Rat.intCast_eq_zero_iff.1 h; omega
 have Sp := sz_z (z := p) (by omega) (by omega)
 have Sc := sz_z (z := c) (by omega) (by omega)
 have S1 := sz_z (z := 1) (by omega) (by omega)
 have Si := fZg hp hp2 e
 have C1 := eZj En p (by omega) (by omega)
 have C2 := gZf En ((p : Int) : Rat) e (Sp.mono (by omega)) (by omega) (by omega) hne
 have C3 := eZj En 1 (by omega) (by omega)
 have C4 := eZj En c (by omega) (by omega)
 have C5 := jZN En ((c : Int) : Rat) ((((p : Int) : Rat)⁻¹) ^ e) (Sc.mono (by omega)) (Si.mono (by omega))
 have C6 := krsub En ((1 : Int) : Rat) (((c : Int) : Rat) * (((p : Int) : Rat)⁻¹) ^ e) (S1.mono (by omega)) ((bZP Sc Si).mono (by omega))
 rw [show ((1 : Int) : Rat) - ((c : Int) : Rat) * (((p : Int) : Rat)⁻¹) ^ e = fct p c e from rfl] at C6
 have en : IntKind.i64.wrap (-(e : Int)) = -(e : Int) := w64 (by omega) (by omega)
 refine aZb Tryz.func70 rfl Tryz.ntmps70 rfl ?_
 intro w0 h0
 refine js (jr (jA jj jj jj (jn (js (jr (jm jj (jS (aZa C1 ⟨jj, trivial⟩) (jm jj (jS (bZB jj (fun w => bZA w _ _) (vint en)) (jS (aZa C2 ⟨jj, jj, trivial⟩) (jm jj (jx' jj jj (jx' jj jj (jA jj jj jj (jP jj jj jj jj (ja jj (jn (js (jr (jS (aZa C3 ⟨jj, trivial⟩) (jm jj (jS (aZa C4 ⟨jj, trivial⟩) (jL jj jj jj (jS (aZa C5 ⟨jj, jj, trivial⟩) (jS (aZa C6 ⟨jj, jj, trivial⟩) (jP jj jj jj jj (jn (ji ?_))))))))))))))))))))))))))))
 exact rtC rfl jj jj
theorem lZ4 (p : Int) (k : Nat) : dvs p (k + 1) = dvs p k * fct p 1 (2 * (k + 1)) := rfl
set_option maxHeartbeats 1000000 in
theorem gZb (p c : Int) (n : Nat) (hp : 2 ≤ p) (hp2 : p ≤ 9973) (c1 : -1 ≤ c) (c2 : c ≤ 1) (hn : n ≤ 9) : Fn Tryz.prog En 38 [ex (.int .i64 p), aggP [ex (.int .i64 (n : Int)), ex (.int .i64 c)]] (qC (dia p n c)) := by
 have W1 := eZj En 1 (by omega) (by omega)
 have W2 := eZj En 2 (by omega) (by omega)
 by_cases hn0 : n = 0
 ·subst hn0
  unfold dia
  rw [if_pos rfl]
  refine aZb Tryz.func38 rfl Tryz.ntmps38 rfl ?_
  intro w0 h0
  refine js (jr (jB jj jj jj (jA jj jj jj (jn (js (js (jr (jF jj jj (jl jj jj jj (jS (bEt jj jj) (jn (jt jj (js (jr (jS (aZa W1 ⟨jj, trivial⟩) (jP jj jj jj jj (jn (ji ?_))))))))))))))))))
  exact rtC rfl jj jj
 obtain ⟨m, hm⟩ : ∃ m, (n + 1) / 2 = m + 1 := ⟨(n + 1) / 2 - 1, by omega⟩
 have ea := wS n (by omega)
 have eb : IntKind.i64.wrap (((n + 1 : Nat) : Int).tdiv 2) = ((m + 1 : Nat) : Int) := by
  rw [show ((n + 1 : Nat) : Int).tdiv 2 = (((n + 1) / 2 : Nat) : Int) from (Int.ofNat_tdiv _ _).symm, hm]
  exact w64 (by omega) (by omega)
 have em : ((n : Nat) : Int).tmod 2 = ((n % 2 : Nat) : Int) := (Int.ofNat_tmod _ _).symm
 have S1 := sz_z (z := 1) (by omega) (by omega)
 have Sd := eZA hp hp2 (k := m) (by omega)
 refine aZb Tryz.func38 rfl Tryz.ntmps38 rfl ?_
 intro w0 h0
 refine js (jr (jB jj jj jj (jA jj jj jj (jn (js (js (jr (jF jj jj (jl jj jj jj (jS (bEf jj jj) (jn (jf jj (jp (js (jr (jF jj jj (jl jj jj jj (jS (bAd jj jj ea) (jS (bQu jj jj eb) (ja jj (jn (js (jr (jS (aZa W2 ⟨jj, trivial⟩) (jA jj jj jj (jP jj jj jj jj (jn (js (js (jr (ja jj (jn (jb ?_)))))))))))))))))))))))))))))))))
 refine WpD.loop (α := {k : Nat // k ≤ m}) (fun k => ⟨[(0, .one (ex (.int .i64 p))), (3, .ptr 3 0), (4, .ptr 4 0), (5, .one (ex (.int .i64 ((m + 1 : Nat) : Int)))), (6, .ptr 6 0), (7, .one (ex (.int .i64 ((k.1 + 1 : Nat) : Int))))], [(3, [ex (.int .i64 (n : Int)), ex (.int .i64 c)]), (4, [ex (.bool false), ex (.slice none 0 0), ex (.bool false), ex (.slice none 0 0)]), (6, eZb (dvs p k.1))]⟩) (fun k => m - k.1) ⟨0, Nat.zero_le _⟩ ?_ ?_
 ·refine Sub.mk ?_ ?_ <;> repeat (first | exact trivial | refine jV jj ?_ | refine jy jj ?_ | refine jw jj (js0 jj) ?_)
 rintro ⟨k, hk⟩
 dsimp only at hk ⊢
 by_cases hlt : k < m
 ·have C1 := jZD En p 1 (2 * (k + 1)) hp hp2 (by omega) (by omega) (by omega) (by omega)
  have Sk := eZA hp hp2 (k := k) (by omega)
  have C2 := jZN En (dvs p k) (fct p 1 (2 * (k + 1))) (Sk.mono (by omega)) ((eZ9 hp hp2 (c := 1) (by omega) (by omega) (by omega)).mono (by omega))
  rw [← lZ4] at C2
  have e1 : IntKind.i64.wrap (2 * ((k + 1 : Nat) : Int)) = ((2 * (k + 1) : Nat) : Int) := by rw [w64 (by omega) (by omega)]; omega
  have e2 : IntKind.i64.wrap (((k + 1 : Nat) : Int) + 1) = ((k + 1 + 1 : Nat) : Int) := by rw [w64 (by omega) (by omega)]; omega
  refine js (js (jr (jm jj (jm jj (jS (bLt jj jj) (jn (jt jj (jp (js (jb (jr (jL jj jj jj (jm jj (jm jj (jS (bMu jj jj e1) (jS (aZa C1 ⟨jj, jj, jj, trivial⟩) (jS (aZa C2 ⟨jj, jj, trivial⟩) (jP jj jj jj jj (jn (jr (jm jj (jS (bAd jj jj e2) (ja jj (jn ?_))))))))))))))))))))))))
  refine ⟨⟨k + 1, by omega⟩, ?_, by dsimp only; omega⟩
  refine Sub.mk ?_ ?_ <;> repeat (first | exact trivial | refine jV jj ?_ | refine jy jj ?_ | refine jw jj (js0 jj) ?_)
 ·have : k = m := by omega
  subst this
  by_cases hodd : n % 2 = 1
  ·have hd : dia p n c = ((1 : Int) : Rat) / dvs p k := by
    unfold dia
    rw [if_neg hn0, if_pos hodd, hm, Nat.add_sub_cancel]
   rw [hd]
   have Q1 := krquo En ((1 : Int) : Rat) (dvs p k) (S1.mono (by omega)) (Sd.mono (by omega)) (gZk hp k)
   refine js (js (jr (jm jj (jm jj (jS (bLf jj jj) (jn (jf jj (je (js (js (jr (jF jj jj (jl jj jj jj (jS (bRe jj jj em) (jS (bEf jj jj) (jn (jf jj (jp (js (jr (jS (aZa W1 ⟨jj, trivial⟩) (jL jj jj jj (jS (aZa Q1 ⟨jj, jj, trivial⟩) (jm jj (jx' jj jj (jx' jj jj (jA jj jj jj (jP jj jj jj jj (ja jj (jn (js (jr (jL jj jj jj (jP jj jj jj jj (jn (ji ?_))))))))))))))))))))))))))))))))))))
   exact rtC rfl jj jj
  ·have hd : dia p n c = ((1 : Int) : Rat) / (dvs p k * fct p c (k + 1)) := by
    unfold dia
    rw [if_neg hn0, if_neg hodd, hm, Nat.add_sub_cancel]
   rw [hd]
   have hev : n % 2 = 0 := by omega
   have Sf := eZ9 hp hp2 c1 c2 (e := k + 1) (by omega)
   have C1 := jZD En p c (k + 1) hp hp2 c1 c2 (by omega) (by omega)
   have C2 := jZN En (dvs p k) (fct p c (k + 1)) (Sd.mono (by omega)) (Sf.mono (by omega))
   have hne : dvs p k * fct p c (k + 1) ≠ 0 := fun h => (Rat.mul_eq_zero.1 h).elim (gZk hp k) (eZT hp (by omega) c1 c2)
   have Q1 := krquo En ((1 : Int) : Rat) (dvs p k * fct p c (k + 1)) (S1.mono (by omega)) ((bZP Sd Sf).mono (by omega)) hne
   refine js (js (jr (jm jj (jm jj (jS (bLf jj jj) (jn (jf jj (je (js (js (jr (jF jj jj (jl jj jj jj (jS (bRe jj jj em) (jS (bEt jj jj) (jn (jt jj (jr (jL jj jj jj (jm jj (jF jj jj (jl jj jj jj (jm jj (jS (aZa C1 ⟨jj, jj, jj, trivial⟩) (jS (aZa C2 ⟨jj, jj, trivial⟩) (jP jj jj jj jj (jn (js (jr (jS (aZa W1 ⟨jj, trivial⟩) (jL jj jj jj (jS (aZa Q1 ⟨jj, jj, trivial⟩) (jm jj (jx' jj jj (jx' jj jj (jA jj jj jj (jP jj jj jj jj (ja jj (jn (js (jr (jL jj jj jj (jP jj jj jj jj (jn ?_))))))))))))))))))))))))))))))))))))))))))))
   refine ji ?_
   exact rtC rfl jj jj
end
section
variable (En : Ev)
theorem inv1 (r : Rat) : ((1 : Int) : Rat) / r = r⁻¹ := by rw [Rat.div_def, show ((1 : Int) : Rat) = 1 from rfl, Rat.one_mul]
theorem hZs (r : Rat) (n : Nat) (hr : Sz 1000 r) (hn : n ≤ 64) (hn0 : 0 < n) (h : r ≠ 0) : Fn Tryz.prog En 63 [qC r, ex (.int .i64 (-(n : Int)))] (tupP [qC (r⁻¹ ^ n), ex (.bool true)]) := by
 have K1 := bZo En (RQ.of r) (RQ.of_okR (hr.mono (by omega)))
 rw [RQ.of_v] at K1
 have W1 := dZf En 1 (by omega) (by omega)
 have S1 := sz_z (z := 1) (by omega) (by omega)
 have Q1 := kqquo En ((1 : Int) : Rat) r (S1.mono (by omega)) (hr.mono (by omega)) h
 rw [inv1] at Q1
 have Si := fZf hr (by omega)
 have C2 := cpow En (r⁻¹).num n (Nat.le_trans Si.1 (by omega)) hn
 have C3 := cpow En (r⁻¹).den n (Nat.le_trans Si.2 (by omega)) hn
 have e1 : IntKind.i64.wrap (-(-(n : Int))) = (n : Int) := by rw [Int.neg_neg]; exact w64 (by omega) (by omega)
 rw [lZb (r⁻¹ ^ n) (a := (r⁻¹).num ^ n) (b := ((r⁻¹).den : Int) ^ n) (Rat.num_pow _ n) (by rw [Rat.den_pow]; exact_mod_cast rfl)]
 refine aZb Tryz.func63 rfl Tryz.ntmps63 rfl ?_
 intro w0 h0
 refine js (jr (jB jj jj jj (jA jj jj jj (ja jj (jn (js (js (jr (jm jj (jS (bLf jj jj) (jm jj (jgm jj (jg (bGf jj jj) (jQ jj jj (jn (jf jj (jp (js (jr (jL jj jj jj (jS (aZa K1 ⟨jj, trivial⟩) (jA jj jj jj (jP jj jj jj jj (jn (js (js (jr (jm jj (jS (bLt jj jj) (jn (jt jj (js (jr (jS (aZa W1 ⟨jj, trivial⟩) (jL jj jj jj (jS (aZa Q1 ⟨jj, jj, trivial⟩) (jm jj (jx' jj jj (jx' jj jj (jA jj jj jj (jP jj jj jj jj (ja jj (jn ?_)))))))))))))))))))))))))))))))))))))))))))
 refine js (js (jr (jm jj (jS (bNo jj) (jn (jf jj (jp (jr (jL jj jj jj (jm jj (jS (bZB jj (fun w => bZA w _ _) (vint e1)) (jP jj jj jj jj (ja jj (jn (js (jr (jF jj jj (jL jj jj jj (jm jj (jS (aZa C2 ⟨jj, jj, trivial⟩) (jm jj (jx' jj jj (jx' jj jj (jA jj jj jj (jP jj jj jj jj (ja jj (jn (js (jr (jF jj jj (jL jj jj jj (jm jj (jS (aZa C3 ⟨jj, jj, trivial⟩) (jm jj (jx' jj jj (jx' jj jj (jA jj jj jj (jP jj jj jj jj (ja jj (jn ?_))))))))))))))))))))))))))))))))))))))))
 refine js (jr (jL jj jj jj (jL jj jj jj (jS (aZl (ps := [(_, _), (_, _)]) ⟨jj, Part.c jj, jj, Part.c jj, trivial⟩ jj) (jP jj jj jj jj (ja jj (jn (ji ?_))))))))
 exact rtD rfl jj jj jj
theorem mZy (p : Int) (e : Nat) (hp : 2 ≤ p) (hp2 : p ≤ 9973) (he : e ≤ 10) (he0 : 1 ≤ e) : Fn Tryz.prog En 32 [ex (.int .i64 p), ex (.int .i64 (-(e : Int)))] (qC ((((p : Int) : Rat)⁻¹) ^ e)) := by
 have hne : ((p : Int) : Rat) ≠ 0 := by intro h; have := Rat.intCast_eq_zero_iff.1 h; omega
 have C1 := dZf En p (by omega) (by omega)
 have C2 := hZs En ((p : Int) : Rat) e ((sz_z (z := p) (by omega) (by omega)).mono (by omega)) (by omega) (by omega) hne
 refine aZb Tryz.func32 rfl Tryz.ntmps32 rfl ?_
 intro w0 h0
 refine js (jr (jA jj jj jj (jn (js (jr (jm jj (jS (aZa C1 ⟨jj, trivial⟩) (jm jj (jS (aZa C2 ⟨jj, jj, trivial⟩) (jm jj (jx' jj jj (jx' jj jj (jA jj jj jj (jP jj jj jj jj (ja jj (jn (js (jr (jL jj jj jj (jP jj jj jj jj (jn (ji ?_))))))))))))))))))))))
 exact rtC rfl jj jj
theorem gdiv (a b : Rat) (ha : Sz 134217728 a) (hb : Sz 134217728 b) (h : b ≠ 0) : Fn Tryz.prog En 125 [qC a, qC b] (qC (a / b)) := by
 have C1 := kqquo En a b ha hb h
 refine aZb Tryz.func125 rfl Tryz.ntmps125 rfl ?_
 intro w0 h0
 refine js (jr (jB jj jj jj (jB jj jj jj (jA jj jj jj (jn (js (jr (jL jj jj jj (jL jj jj jj (jS (aZa C1 ⟨jj, jj, trivial⟩) (jm jj (jx' jj jj (jx' jj jj (jA jj jj jj (jP jj jj jj jj (ja jj (jn (js (jr (jL jj jj jj (jP jj jj jj jj (jn (ji ?_)))))))))))))))))))))))
 exact rtC rfl jj jj
theorem gratio (a b : Int) (h1 : -9223372036854775808 ≤ a) (h2 : a ≤ 9223372036854775807) (h3 : -9223372036854775808 ≤ b) (h4 : b ≤ 9223372036854775807) (hb : b ≠ 0) : Fn Tryz.prog En 124 [ex (.int .i64 a), ex (.int .i64 b)] (qC (Rat.divInt a b)) := by
 have C1 := eZR En a h1 h2
 have C2 := eZR En b h3 h4
 have C3 := knew En a b (Nat.le_trans (cZl (by omega) (by omega)) (show 2 ≤ 536870912 by omega)) (Nat.le_trans (cZl (by omega) (by omega)) (show 2 ≤ 536870912 by omega)) hb
 refine aZb Tryz.func124 rfl Tryz.ntmps124 rfl ?_
 intro w0 h0
 refine js (jr (jA jj jj jj (jn (js (jr (jm jj (jS (aZa C1 ⟨jj, trivial⟩) (jm jj (jS (aZa C2 ⟨jj, trivial⟩) (jS (aZa C3 ⟨jj, jj, trivial⟩) (jm jj (jx' jj jj (jx' jj jj (jA jj jj jj (jP jj jj jj jj (ja jj (jn (js (jr (jL jj jj jj (jP jj jj jj jj (jn (ji ?_)))))))))))))))))))))))
 exact rtC rfl jj jj
theorem rsigned (a : Rat) (p c : Int) (s : Nat) (ha : Sz 1000 a) (hp : 2 ≤ p) (hp2 : p ≤ 9973) (c1 : -1 ≤ c) (c2 : c ≤ 1) (hs : 1 ≤ s) (hs2 : s ≤ 10) : Fn Tryz.prog En 76 [qC a, ex (.int .i64 p), ex (.int .i64 c), ex (.int .i64 (s : Int))] (qC (a / fct p c s)) := by
 have Sc := sz_z (z := c) (by omega) (by omega)
 have S1 := sz_z (z := 1) (by omega) (by omega)
 have Si := fZg hp hp2 s
 have C1 := dZf En 1 (by omega) (by omega)
 have C2 := dZf En c (by omega) (by omega)
 have C3 := mZy En p s hp hp2 hs2 hs
 have C4 := kqmul En ((c : Int) : Rat) ((((p : Int) : Rat)⁻¹) ^ s) (Sc.mono (by omega)) (Si.mono (by omega))
 have C5 := kqsub En ((1 : Int) : Rat) (((c : Int) : Rat) * (((p : Int) : Rat)⁻¹) ^ s) (S1.mono (by omega)) ((bZP Sc Si).mono (by omega))
 rw [show ((1 : Int) : Rat) - ((c : Int) : Rat) * (((p : Int) : Rat)⁻¹) ^ s = fct p c s from rfl] at C5
 have C6 := gdiv En a (fct p c s) (ha.mono (by omega)) ((eZ9 hp hp2 c1 c2 hs2).mono (by omega)) (eZT hp hs c1 c2)
 have en : IntKind.i64.wrap (-(s : Int)) = -(s : Int) := w64 (by omega) (by omega)
 refine aZb Tryz.func76 rfl Tryz.ntmps76 rfl ?_
 intro w0 h0
 refine js (jr (jB jj jj jj (jA jj jj jj (jn (js (jr (jL jj jj jj (jS (aZa C1 ⟨jj, trivial⟩) (jm jj (jS (aZa C2 ⟨jj, trivial⟩) (jm jj (jm jj (jS (bZB jj (fun w => bZA w _ _) (vint en)) (jS (aZa C3 ⟨jj, jj, trivial⟩) (jS (aZa C4 ⟨jj, jj, trivial⟩) (jS (aZa C5 ⟨jj, jj, trivial⟩) (jS (aZa C6 ⟨jj, jj, trivial⟩) (jP jj jj jj jj (jn (ji ?_))))))))))))))))))))
 exact rtC rfl jj jj
theorem lZs (p : Int) (k : Nat) : grp p (k + 1) = grp p k / (((1 : Int) : Rat) - (((p : Int) : Rat)⁻¹) ^ (2 * (k + 1))) := rfl
theorem mZ1 (p : Int) (s : Nat) (hp : 2 ≤ p) (hp2 : p ≤ 9973) (hs : 1 ≤ s) (hs2 : s ≤ 5) : Fn Tryz.prog En 75 [ex (.int .i64 p), ex (.int .i64 (s : Int))] (qC (grp p (s - 1))) := by
 obtain ⟨m, rfl⟩ : ∃ m, s = m + 1 := ⟨s - 1, by omega⟩
 rw [Nat.add_sub_cancel]
 have C0 := gratio En 1 2 (by omega) (by omega) (by omega) (by omega) (by omega)
 have W1 := dZf En 1 (by omega) (by omega)
 have S1 := sz_z (z := 1) (by omega) (by omega)
 rw [show Rat.divInt 1 2 = grp p 0 from rfl] at C0
 refine aZb Tryz.func75 rfl Tryz.ntmps75 rfl ?_
 intro w0 h0
 refine js (jr (jA jj jj jj (jn (js (jr (jS (aZa C0 ⟨jj, jj, trivial⟩) (jA jj jj jj (jP jj jj jj jj (jn (js (js (jr (ja jj (jn (jb ?_)))))))))))))))
 refine WpD.loop (α := {k : Nat // k ≤ m}) (fun k => ⟨[(0, .one (ex (.int .i64 p))), (1, .one (ex (.int .i64 ((m + 1 : Nat) : Int)))), (4, .ptr 4 0), (5, .ptr 5 0), (6, .one (ex (.int .i64 ((k.1 + 1 : Nat) : Int))))], [(4, [ex (.bool false), ex (.slice none 0 0), ex (.bool false), ex (.slice none 0 0)]), (5, eZb (grp p k.1))]⟩) (fun k => m - k.1) ⟨0, Nat.zero_le _⟩ ?_ ?_
 ·refine Sub.mk ?_ ?_ <;> repeat (first | exact trivial | refine jV jj ?_ | refine jy jj ?_ | refine jw jj (js0 jj) ?_)
 rintro ⟨k, hk⟩
 dsimp only at hk ⊢
 by_cases hlt : k < m
 ·have Si := fZg hp hp2 (2 * (k + 1))
  have Sf := eZ9 hp hp2 (c := 1) (by omega) (by omega) (e := 2 * (k + 1)) (by omega)
  have hf := eZT hp (c := 1) (e := 2 * (k + 1)) (by omega) (by omega) (by omega)
  rw [kZf] at Sf hf
  have C1 := mZy En p (2 * (k + 1)) hp hp2 (by omega) (by omega)
  have C2 := kqsub En ((1 : Int) : Rat) ((((p : Int) : Rat)⁻¹) ^ (2 * (k + 1))) (S1.mono (by omega)) (Si.mono (by omega))
  have C3 := gdiv En (grp p k) (((1 : Int) : Rat) - (((p : Int) : Rat)⁻¹) ^ (2 * (k + 1))) ((mZp hp hp2 (k := k) (by omega)).mono (by omega)) (Sf.mono (by omega)) hf
  rw [← lZs] at C3
  have e1 : IntKind.i64.wrap (-2 * ((k + 1 : Nat) : Int)) = -((2 * (k + 1) : Nat) : Int) := by rw [w64 (by omega) (by omega)]; omega
  have e2 : IntKind.i64.wrap (((k + 1 : Nat) : Int) + 1) = ((k + 1 + 1 : Nat) : Int) := by rw [w64 (by omega) (by omega)]; omega
  refine js (js (jr (jm jj (jm jj (jS (bLt jj jj) (jn (jt jj (jp (js (jb (jr (jL jj jj jj (jS (aZa W1 ⟨jj, trivial⟩) (jm jj (jm jj (jS (bMu jj jj e1) (jS (aZa C1 ⟨jj, jj, trivial⟩) (jS (aZa C2 ⟨jj, jj, trivial⟩) (jS (aZa C3 ⟨jj, jj, trivial⟩) (jP jj jj jj jj (jn (jr (jm jj (jS (bAd jj jj e2) (ja jj (jn ?_))))))))))))))))))))))))))
  refine ⟨⟨k + 1, by omega⟩, ?_, by dsimp only; omega⟩
  refine Sub.mk ?_ ?_ <;> repeat (first | exact trivial | refine jV jj ?_ | refine jy jj ?_ | refine jw jj (js0 jj) ?_)
 ·have : k = m := by omega
  subst this
  refine js (js (jr (jm jj (jm jj (jS (bLf jj jj) (jn (jf jj (je (js (jr (jL jj jj jj (jP jj jj jj jj (jn (ji ?_))))))))))))))
  exact rtC rfl jj jj
theorem rfactor (p c : Int) (n : Nat) (hp : 2 ≤ p) (hp2 : p ≤ 9973) (c1 : -1 ≤ c) (c2 : c ≤ 1) (hn : n ≤ 9) : Fn Tryz.prog En 40 [ex (.int .i64 p), aggP [ex (.int .i64 (n : Int)), ex (.int .i64 c)]] (qC (dia p n c)) := by
 have W1 := dZf En 1 (by omega) (by omega)
 by_cases h0 : n = 0
 ·subst h0
  unfold dia
  rw [if_pos rfl]
  refine aZb Tryz.func40 rfl Tryz.ntmps40 rfl ?_
  intro w0 h0
  refine js (jr (jB jj jj jj (jA jj jj jj (jn (js (jb (js (jr (jF jj jj (jl jj jj jj (jS (bEt jj jj) (ja jj (jn (jt jj (js (jr (jS (aZa W1 ⟨jj, trivial⟩) (jP jj jj jj jj (jn (ji ?_))))))))))))))))))))
  exact rtC rfl jj jj
 have em : ((n : Nat) : Int).tmod 2 = ((n % 2 : Nat) : Int) := (Int.ofNat_tmod _ _).symm
 by_cases hodd : n % 2 = 1
 ·have ea := wS n (by omega)
  have eb : IntKind.i64.wrap (((n + 1 : Nat) : Int).tdiv 2) = (((n + 1) / 2 : Nat) : Int) := by
   rw [show ((n + 1 : Nat) : Int).tdiv 2 = (((n + 1) / 2 : Nat) : Int) from (Int.ofNat_tdiv _ _).symm]
   exact w64 (by omega) (by omega)
  have C1 := mZ1 En p ((n + 1) / 2) hp hp2 (by omega) (by omega)
  have hd : dia p n c = grp p ((n + 1) / 2 - 1) := by
   unfold dia
   rw [if_neg h0, if_pos hodd, fZz hp]
  rw [hd]
  refine aZb Tryz.func40 rfl Tryz.ntmps40 rfl ?_
  intro w0 h0
  refine js (jr (jB jj jj jj (jA jj jj jj (jn (js (jb (js (jr (jF jj jj (jl jj jj jj (jS (bEf jj jj) (ja jj (jn (jf jj (js (jr (jF jj jj (jl jj jj jj (jS (bRe jj jj em) (jS (bEt jj jj) (ja jj (jn (jt jj (js (jr (jm jj (jF jj jj (jl jj jj jj (jS (bAd jj jj ea) (jS (bQu jj jj eb) (jS (aZa C1 ⟨jj, jj, trivial⟩) (jP jj jj jj jj (jn (ji ?_))))))))))))))))))))))))))))))))))
  exact rtC rfl jj jj
 ·have hev : n % 2 = 0 := by omega
  have eb : IntKind.i64.wrap (((n : Nat) : Int).tdiv 2) = ((n / 2 : Nat) : Int) := by
   rw [show ((n : Nat) : Int).tdiv 2 = ((n / 2 : Nat) : Int) from (Int.ofNat_tdiv _ _).symm]
   exact w64 (by omega) (by omega)
  have C1 := mZ1 En p (n / 2) hp hp2 (by omega) (by omega)
  have C2 := rsigned En (grp p (n / 2 - 1)) p c (n / 2) ((mZp hp hp2 (k := n / 2 - 1) (by omega)).mono (by omega)) hp hp2 c1 c2 (by omega) (by omega)
  have hd : dia p n c = grp p (n / 2 - 1) / fct p c (n / 2) := by
   obtain ⟨k, hk⟩ : ∃ k, n / 2 = k + 1 := ⟨n / 2 - 1, by omega⟩
   unfold dia
   rw [if_neg h0, if_neg hodd, show (n + 1) / 2 = k + 1 by omega, hk, Nat.add_sub_cancel]
   exact lZA hp c1 c2
  rw [hd]
  refine aZb Tryz.func40 rfl Tryz.ntmps40 rfl ?_
  intro w0 h0
  refine js (jr (jB jj jj jj (jA jj jj jj (jn (js (jb (js (jr (jF jj jj (jl jj jj jj (jS (bEf jj jj) (ja jj (jn (jf jj (js (jr (jF jj jj (jl jj jj jj (jS (bRe jj jj em) (jS (bEf jj jj) (ja jj (jn (jf jj (jp (js (jr (jm jj (jF jj jj (jl jj jj jj (jS (bQu jj jj eb) (jS (aZa C1 ⟨jj, jj, trivial⟩) (jm jj (jF jj jj (jl jj jj jj (jF jj jj (jl jj jj jj (jS (bQu jj jj eb) (jS (aZa C2 ⟨jj, jj, jj, jj, trivial⟩) (jP jj jj jj jj (jn ?_))))))))))))))))))))))))))))))))))))))))
  refine ji ?_
  exact rtC rfl jj jj
end
end Go.Proofs.YtdieokoenhncfaaGreatDoor
/- The tables of the program (two package variables); the scene's prime numbers; prime.Is, prime.Discriminant as contracts. -/
namespace Go.Proofs.YtdieokoenhncfaaGreatDoor
open Go.RowKit Limb Num
instance cbody84 : CBody Tryz.prog 84 := ⟨⟨_, Tryz.func84, rfl, by rfl⟩⟩
instance cbody47 : CBody Tryz.prog 47 := ⟨⟨_, Tryz.func47, rfl, by rfl⟩⟩
instance cbody77 : CBody Tryz.prog 77 := ⟨⟨_, Tryz.func77, rfl, by rfl⟩⟩
def mrow : List (Bool × Bool × Int × Int × Int) := [(false, false, 0, 0, 2), (false, true, 0, 1, 0), (true, true, 1, 0, 0), (true, true, 0, -1, 0), (true, false, 0, -2, 1), (true, false, 1, -1, 1), (true, false, 7, -1, 1), (true, false, 2, -1, 0), (true, false, 6, -1, 0), (true, false, 3, -1, -1), (true, false, 5, -1, -1), (true, false, 4, -2, -1)]
def hZ6 (r : Bool × Bool × Int × Int × Int) : List Value := [.bool r.1, .bool r.2.1, .int .i64 r.2.2.1, .int .i64 r.2.2.2.1, .int .i64 r.2.2.2.2]
def mtabV : Array Value := (mrow.flatMap hZ6).toArray
def TabM (w : World) : Prop := ∃ t fr, w.heap[0]? = some (.cells mtabV t fr)
def TabD : Ev := ⟨fun w => Tab w ∧ TabM w, fun k => k = 1 ∨ k = 0,
 fun w ⟨⟨t, fr, h⟩, ⟨t', fr', h'⟩⟩ k hk => by rcases hk with rfl | rfl; exact aZU h; exact aZU h',
 fun w w' hk ⟨⟨t, fr, h⟩, ⟨t', fr', h'⟩⟩ => ⟨⟨t, fr, by rw [hk _ (.inl rfl)]; exact h⟩, ⟨t', fr', by rw [hk _ (.inr rfl)]; exact h'⟩⟩⟩
theorem Fn.tab {f : FuncId} {ps : List Pd} {r : Pd} (h : Fn Tryz.prog TabE f ps r) : Fn Tryz.prog TabD f ps r := h.env fun _ h => h.1
theorem ex_fnU {h : GH} {w w' : World} {v : Value} {e : Ending} (hh : Holds h w) (he : e = .returned v) (hb : Below w.heap.size w w') : dZE h w (ex v) e w' := by subst he; exact bZU hh hb rfl
theorem fis (n : Int) : Fn Tryz.prog TabE 84 [ex (.int .i64 n)] (ex (.bool (isP n.toNat))) := by
 intro h w vs ht hh hv
 obtain ⟨v, rfl, h1⟩ := hv.one
 have h1 : v = .int .i64 n := h1
 subst h1
 refine (is_any n w ht).mono ?_
 rintro e w' ⟨rfl, rfl⟩
 exact bZU hh (Below.refl _ _) rfl
def od8 (j : Nat) : Nat := ([3, 5, 7, 11, 13, 17, 19, 23] : List Nat).getD j 0
set_option maxHeartbeats 4000000 in
theorem odd_any (k : Int) (w : World) (h1 : 0 ≤ k) (h2 : k ≤ 255) :
  Calls Tryz.prog 77 #[.int .u8 k] w fun e w' => e = .returned (.int .i64 (od8 (k % 8).toNat : Int)) ∧ Below w.heap.size w w' := by
 have hr : k % 8 = 0 ∨ k % 8 = 1 ∨ k % 8 = 2 ∨ k % 8 = 3 ∨ k % 8 = 4 ∨ k % 8 = 5 ∨ k % 8 = 6 ∨ k % 8 = 7 := by omega
 obtain ⟨r, hrr⟩ : ∃ r, k % 8 = r := ⟨_, rfl⟩
 rw [hrr] at hr
 have HR := Lib.hid hrr
 rcases hr with rfl | rfl | rfl | rfl | rfl | rfl | rfl | rfl
 all_goals
  go_enter Tryz.func77, Tryz.ntmps77
  go_wp2_with fail
  go_ret
  refine ⟨?_, (Below.refl _ _).alloc (Nat.le_refl _) _⟩
  first | rfl | (rw [HR.out]; rfl)
theorem fodd (En : Ev) (k : Int) (h1 : 0 ≤ k) (h2 : k ≤ 255) : Fn Tryz.prog En 77 [ex (.int .u8 k)] (ex (.int .i64 (od8 (k % 8).toNat : Int))) := by
 intro h w vs _ hh hv
 obtain ⟨v, rfl, e1⟩ := hv.one
 have e1 : v = .int .u8 k := e1
 subst e1
 exact (odd_any k w h1 h2).mono fun _ _ ⟨he, hb⟩ => ex_fnU hh he hb
end Go.Proofs.YtdieokoenhncfaaGreatDoor
/- Diagonal and Standard: the program's and the reference's. (With LT.skipU.) -/
namespace Go.Proofs.YtdieokoenhncfaaGreatDoor
open Go.RowKit Limb Num
instance cbody24 : CBody Tryz.prog 24 := ⟨⟨_, Tryz.func24, rfl, by rfl⟩⟩
def smP (p : Int) : Bool := decide (p ≤ 9973) && isP p.toNat
theorem iZW {p : Int} (h : smP p = true) : 2 ≤ p ∧ p ≤ 9973 ∧ isP p.toNat = true := by
 unfold smP at h
 rw [Bool.and_eq_true] at h
 obtain ⟨h1, h2⟩ := h
 have h1 := of_decide_eq_true h1
 refine ⟨?_, h1, h2⟩
 unfold isP at h2
 rw [Bool.and_eq_true, Bool.and_eq_true] at h2
 have := of_decide_eq_true h2.1.1
 omega
def zero4 : Pd := aggP [ex (.bool false), ex (.slice none 0 0), ex (.bool false), ex (.slice none 0 0)]
section
variable (En : Ev)
theorem qsame0 : Fn Tryz.prog En 34 [zero4, zero4] (ex (.bool true)) := by
 have C1 := (fsame En 0 0 (by decide) (by decide)).arg (ps := [aggP [ex (.bool false), ex (.slice none 0 0)], aggP [ex (.bool false), ex (.slice none 0 0)]]) ⟨hZb, hZb, trivial⟩
 rw [decide_eq_true rfl] at C1
 refine aZb Tryz.func34 rfl Tryz.ntmps34 rfl ?_
 intro w0 h0
 repeat (first | apply js | apply jb)
 refine jr (jB jj jj jj (jB jj jj jj (ja jj (jn ?_))))
 repeat (first | apply js | apply jb)
 refine jr (jF jj jj (jL jj jj jj (jF jj jj (jL jj jj jj (jS (aZa C1 ⟨jj, jj, trivial⟩) (jm jj ?_))))))
 first | refine jgf jj jj ?_ | refine jk ?_ | refine ju ?_
 first | refine jg (aZ2 jj jj jj jj) ?_ | refine jk ?_ | refine ju ?_
 first | refine jgf jj jj ?_ | refine jk ?_ | refine ju ?_
 first | refine jg (aZ2 jj jj jj jj) ?_ | refine jk ?_ | refine ju ?_
 first | refine jg (aZa C1 ⟨jj, jj, trivial⟩) ?_ | refine jk ?_ | refine ju ?_
 first | refine jq jj jj ?_ | refine jQ jj jj ?_
 refine ja jj (jn ?_)
 repeat (first | apply js | apply jb)
 refine WpD.ret ?_
 exact rtT rfl jj
theorem rsmall (p : Int) : Fn Tryz.prog En 143 [ex (.int .i64 p)] (ex (.bool (smP p))) := by
 have C1 := gris En p
 unfold smP
 by_cases h : p ≤ 9973
 ·rw [decide_eq_true h, Bool.true_and]
  refine aZb Tryz.func143 rfl Tryz.ntmps143 rfl ?_
  intro w0 h0
  refine js (jr (ja jj (jn (js (jr (jm jj (jS (bMt jj jj) (jm jj (jgm jj (jg (aZa C1 ⟨jj, trivial⟩) (jq jj jj (ja jj (jn (ji ?_))))))))))))))
  exact rtT rfl jj
 ·rw [decide_eq_false h, Bool.false_and]
  refine aZb Tryz.func143 rfl Tryz.ntmps143 rfl ?_
  intro w0 h0
  refine js (jr (ja jj (jn (js (jr (jm jj (jS (bMf jj jj) (jm jj (jk (jk (jQ jj jj (ja jj (jn (ji ?_))))))))))))))
  exact rtT rfl jj
end
theorem lZi (p : Int) : Fn Tryz.prog TabE 46 [ex (.int .i64 p)] (ex (.bool (smP p))) := by
 have C1 := fis p
 unfold smP
 by_cases h : p ≤ 9973
 ·rw [decide_eq_true h, Bool.true_and]
  refine aZb Tryz.func46 rfl Tryz.ntmps46 rfl ?_
  intro w0 h0
  refine js (jr (ja jj (jn (js (jr (jm jj (jS (bMt jj jj) (jm jj (jgm jj (jg (aZa C1 ⟨jj, trivial⟩) (jq jj jj (ja jj (jn (ji ?_))))))))))))))
  exact rtT rfl jj
 ·rw [decide_eq_false h, Bool.false_and]
  refine aZb Tryz.func46 rfl Tryz.ntmps46 rfl ?_
  intro w0 h0
  refine js (jr (ja jj (jn (js (jr (jm jj (jS (bMf jj jj) (jm jj (jk (jk (jQ jj jj (ja jj (jn (ji ?_))))))))))))))
  exact rtT rfl jj
end Go.Proofs.YtdieokoenhncfaaGreatDoor
/- Symbols: species, cross term, types, mass. (With LT.skipU.) -/
namespace Go.Proofs.YtdieokoenhncfaaGreatDoor
open Go.RowKit Limb Num
instance cbody66 : CBody Tryz.prog 66 := ⟨⟨_, Tryz.func66, rfl, by rfl⟩⟩
instance cbody35 : CBody Tryz.prog 35 := ⟨⟨_, Tryz.func35, rfl, by rfl⟩⟩
instance cbody11 : CBody Tryz.prog 11 := ⟨⟨_, Tryz.func11, rfl, by rfl⟩⟩
instance cbody13 : CBody Tryz.prog 13 := ⟨⟨_, Tryz.func13, rfl, by rfl⟩⟩
instance cbody18 : CBody Tryz.prog 18 := ⟨⟨_, Tryz.func18, rfl, by rfl⟩⟩
instance cbody27 : CBody Tryz.prog 27 := ⟨⟨_, Tryz.func27, rfl, by rfl⟩⟩
instance cbody94 : CBody Tryz.prog 94 := ⟨⟨_, Tryz.func94, rfl, by rfl⟩⟩
instance cbody95 : CBody Tryz.prog 95 := ⟨⟨_, Tryz.func95, rfl, by rfl⟩⟩
instance cbody52 : CBody Tryz.prog 52 := ⟨⟨_, Tryz.func52, rfl, by rfl⟩⟩
structure Co where
 e : Int
 d : Int
 s : Int
 o : Bool
 y : Int
def coc (c : Co) : List Pd := [ex (.int .i64 c.e), ex (.int .i64 c.d), ex (.int .i64 c.s), ex (.bool c.o), ex (.int .i64 c.y)]
def ccs (f : Nat → Co) : Nat → List Pd := fun i => coc (f i)
theorem aZp (f : Nat → Co) (i : Nat) : (ccs f i).length = 5 := rfl
def locP (p : Int) (f : Nat → Co) (n : Nat) : Pd := aggP [ex (.int .i64 p), slc 5 (rows (ccs f) n) n]
def mro (i : Nat) : Bool × Bool × Int × Int × Int := mrow.getD i (false, false, 0, 0, 0)
def mtc : Nat → List Pd := fun i => (hZ6 (mro i)).map ex
theorem jZ9 : mtabV.toList.map ex = rows mtc 12 := rfl
theorem lZh : ∀ v ∈ mtabV.toList, v.oneCell' = true := by decide +kernel
theorem mtab_at (w : World) (h : TabD.e w) : w.rangeAt 0 0 mtabV.toList := by
 obtain ⟨_, t, fr, h⟩ := h
 intro j v hv
 rw [Nat.zero_add]
 simp only [World.cell?, h]
 simpa using hv
theorem mrow_bd : ∀ i : Fin 12, -2 ≤ (mro i.1).2.2.2.1 ∧ (mro i.1).2.2.2.1 ≤ 1 := by decide +kernel
def fits (o b : Bool) (k : Int) (m : Nat) : Prop := m < 12 ∧ (mro m).1 = o ∧ (mro m).2.1 = b ∧ (mro m).2.2.1 = k ∧ ∀ j, j < m → ¬ ((mro j).1 = o ∧ (mro j).2.1 = b ∧ (mro j).2.2.1 = k)
def rowS (d s : Int) (m : Nat) : Pd := aggP [ex (.int .i64 (d + (mro m).2.2.2.1)), ex (.int .i64 (if (mro m).2.2.2.2 = 2 then s else (mro m).2.2.2.2))]
end Go.Proofs.YtdieokoenhncfaaGreatDoor

/- The diagonal factor: the program's and the reference's. -/
import Derived.Test.YtdieokoenhncfaaGreatDoorZa
import Derived.Test.YtdieokoenhncfaaGreatDoorMy
import Derived.Test.YtdieokoenhncfaaGreatDoorG
import Derived.OpenShut
import Derived.Deep.QuietTactic
import Derived.BigQuiet
set_option maxRecDepth 3000
namespace Go.Proofs.YtdieokoenhncfaaGreatDoor
open Go.RowKit Limb Num
instance cbody29 : CBody Tryz.prog 29 := ⟨⟨_, Tryz.func29, rfl, by rfl⟩⟩
instance cbody70 : CBody Tryz.prog 70 := ⟨⟨_, Tryz.func70, rfl, by rfl⟩⟩
instance cbody38 : CBody Tryz.prog 38 := ⟨⟨_, Tryz.func38, rfl, by rfl⟩⟩
instance cbody32 : CBody Tryz.prog 32 := ⟨⟨_, Tryz.func32, rfl, by rfl⟩⟩
instance cbody75 : CBody Tryz.prog 75 := ⟨⟨_, Tryz.func75, rfl, by rfl⟩⟩
instance cbody76 : CBody Tryz.prog 76 := ⟨⟨_, Tryz.func76, rfl, by rfl⟩⟩
instance cbody40 : CBody Tryz.prog 40 := ⟨⟨_, Tryz.func40, rfl, by rfl⟩⟩
instance cbody143 : CBody Tryz.prog 143 := ⟨⟨_, Tryz.func143, rfl, by rfl⟩⟩
instance cbody46 : CBody Tryz.prog 46 := ⟨⟨_, Tryz.func46, rfl, by rfl⟩⟩
section
variable (En : Ev)
theorem mwhole (a : Int) (h1 : -9223372036854775808 ≤ a) (h2 : a ≤ 9223372036854775807) : Fn Tryz.prog En 29 [ex (.int .i64 a)] (qC (a : Rat)) := by
 have C1 := ksmall En a h1 h2
 have C2 := kwhole En a (Nat.le_trans (zl_small (by omega) (by omega)) (by omega))
 refine fn_of_body Tryz.func29 rfl Tryz.ntmps29 rfl ?_
 intro w0 h0
 refine js (jr (jA jj jj jj (jn (js (jr (jm jj (jS (ru_call C1 ⟨jj, trivial⟩) (jS (ru_call C2 ⟨jj, trivial⟩) (jP jj jj jj jj (jn (ji ?_)))))))))))
 exact ret1 rfl (.cell rfl rfl CRow.ok rfl) (PLe.refl _)
theorem mfactor (p c : Int) (e : Nat) (hp : 2 ≤ p) (hp2 : p ≤ 9973) (c1 : -1 ≤ c) (c2 : c ≤ 1) (he : 1 ≤ e) (he2 : e ≤ 10) : Fn Tryz.prog En 70 [ex (.int .i64 p), ex (.int .i64 c), ex (.int .i64 (e : Int))] (qC (fct p c e)) := by
 have hne : ((p : Int) : Rat) ≠ 0 := by intro h; have := Rat.intCast_eq_zero_iff.1 h; omega
 have Sp := sz_z (z := p) (by omega) (by omega)
 have Sc := sz_z (z := c) (by omega) (by omega)
 have S1 := sz_z (z := 1) (by omega) (by omega)
 have Si := sz_pinv hp hp2 e
 have C1 := mwhole En p (by omega) (by omega)
 have C2 := krpow_neg En ((p : Int) : Rat) e (Sp.mono (by omega)) (by omega) (by omega) hne
 have C3 := mwhole En 1 (by omega) (by omega)
 have C4 := mwhole En c (by omega) (by omega)
 have C5 := krmul En ((c : Int) : Rat) ((((p : Int) : Rat)⁻¹) ^ e) (Sc.mono (by omega)) (Si.mono (by omega))
 have C6 := krsub En ((1 : Int) : Rat) (((c : Int) : Rat) * (((p : Int) : Rat)⁻¹) ^ e) (S1.mono (by omega)) ((szq_mul Sc Si).mono (by omega))
 rw [show ((1 : Int) : Rat) - ((c : Int) : Rat) * (((p : Int) : Rat)⁻¹) ^ e = fct p c e from rfl] at C6
 have en : IntKind.i64.wrap (-(e : Int)) = -(e : Int) := w64 (by omega) (by omega)
 refine fn_of_body Tryz.func70 rfl Tryz.ntmps70 rfl ?_
 intro w0 h0
 refine js (jr (jA jj jj jj (jn (js (jr (jm jj (jS (ru_call C1 ⟨jj, trivial⟩) (jm jj (jS (rt_un_to jj (fun w => run_negi w _ _) (vint en)) (jS (ru_call C2 ⟨jj, jj, trivial⟩) (jm jj (jx' jj jj (jx' jj jj (jA jj jj jj (jP jj jj jj jj (ja jj (jn (js (jr (jS (ru_call C3 ⟨jj, trivial⟩) (jm jj (jS (ru_call C4 ⟨jj, trivial⟩) (jL jj jj jj (jS (ru_call C5 ⟨jj, jj, trivial⟩) (jS (ru_call C6 ⟨jj, jj, trivial⟩) (jP jj jj jj jj (jn (ji ?_))))))))))))))))))))))))))))
 exact ret1 rfl (.cell rfl rfl CRow.ok rfl) (PLe.refl _)
theorem dvs_succ (p : Int) (k : Nat) : dvs p (k + 1) = dvs p k * fct p 1 (2 * (k + 1)) := rfl
set_option maxHeartbeats 1000000 in
theorem mdiagonal (p c : Int) (n : Nat) (hp : 2 ≤ p) (hp2 : p ≤ 9973) (c1 : -1 ≤ c) (c2 : c ≤ 1) (hn : n ≤ 9) : Fn Tryz.prog En 38 [ex (.int .i64 p), aggP [ex (.int .i64 (n : Int)), ex (.int .i64 c)]] (qC (dia p n c)) := by
 have W1 := mwhole En 1 (by omega) (by omega)
 have W2 := mwhole En 2 (by omega) (by omega)
 by_cases hn0 : n = 0
 ·subst hn0
  unfold dia
  rw [if_pos rfl]
  refine fn_of_body Tryz.func38 rfl Tryz.ntmps38 rfl ?_
  intro w0 h0
  refine js (jr (jB jj jj jj (jA jj jj jj (jn (js (js (jr (jF jj jj (jl jj jj jj (jS (bEt jj jj) (jn (jt jj (js (jr (jS (ru_call W1 ⟨jj, trivial⟩) (jP jj jj jj jj (jn (ji ?_))))))))))))))))))
  exact ret1 rfl (.cell rfl rfl CRow.ok rfl) (PLe.refl _)
 obtain ⟨m, hm⟩ : ∃ m, (n + 1) / 2 = m + 1 := ⟨(n + 1) / 2 - 1, by omega⟩
 have ea := wS n (by omega)
 have eb : IntKind.i64.wrap (((n + 1 : Nat) : Int).tdiv 2) = ((m + 1 : Nat) : Int) := by
  rw [show ((n + 1 : Nat) : Int).tdiv 2 = (((n + 1) / 2 : Nat) : Int) from (Int.ofNat_tdiv _ _).symm, hm]
  exact w64 (by omega) (by omega)
 have em : ((n : Nat) : Int).tmod 2 = ((n % 2 : Nat) : Int) := (Int.ofNat_tmod _ _).symm
 have S1 := sz_z (z := 1) (by omega) (by omega)
 have Sd := sz_dvs hp hp2 (k := m) (by omega)
 refine fn_of_body Tryz.func38 rfl Tryz.ntmps38 rfl ?_
 intro w0 h0
 refine js (jr (jB jj jj jj (jA jj jj jj (jn (js (js (jr (jF jj jj (jl jj jj jj (jS (bEf jj jj) (jn (jf jj (jp (js (jr (jF jj jj (jl jj jj jj (jS (bAd jj jj ea) (jS (bQu jj jj eb) (ja jj (jn (js (jr (jS (ru_call W2 ⟨jj, trivial⟩) (jA jj jj jj (jP jj jj jj jj (jn (js (js (jr (ja jj (jn (jb ?_)))))))))))))))))))))))))))))))))
 refine WpD.loop (α := {k : Nat // k ≤ m}) (fun k => ⟨[(0, .one (ex (.int .i64 p))), (3, .ptr 3 0), (4, .ptr 4 0), (5, .one (ex (.int .i64 ((m + 1 : Nat) : Int)))), (6, .ptr 6 0), (7, .one (ex (.int .i64 ((k.1 + 1 : Nat) : Int))))], [(3, [ex (.int .i64 (n : Int)), ex (.int .i64 c)]), (4, [ex (.bool false), ex (.slice none 0 0), ex (.bool false), ex (.slice none 0 0)]), (6, qCells (dvs p k.1))]⟩) (fun k => m - k.1) ⟨0, Nat.zero_le _⟩ ?_ ?_
 ·refine Sub.mk ?_ ?_ <;> repeat (first | exact trivial | refine jv jj ?_ | refine jy jj ?_ | refine jw jj (js0 jj) ?_ | refine ⟨⟨_, jj, PLe.refl _⟩, trivial, ?_⟩)
 rintro ⟨k, hk⟩
 dsimp only at hk ⊢
 by_cases hlt : k < m
 ·have C1 := mfactor En p 1 (2 * (k + 1)) hp hp2 (by omega) (by omega) (by omega) (by omega)
  have Sk := sz_dvs hp hp2 (k := k) (by omega)
  have C2 := krmul En (dvs p k) (fct p 1 (2 * (k + 1))) (Sk.mono (by omega)) ((sz_fct hp hp2 (c := 1) (by omega) (by omega) (by omega)).mono (by omega))
  rw [← dvs_succ] at C2
  have e1 : IntKind.i64.wrap (2 * ((k + 1 : Nat) : Int)) = ((2 * (k + 1) : Nat) : Int) := by rw [w64 (by omega) (by omega)]; omega
  have e2 : IntKind.i64.wrap (((k + 1 : Nat) : Int) + 1) = ((k + 1 + 1 : Nat) : Int) := by rw [w64 (by omega) (by omega)]; omega
  refine js (js (jr (jm jj (jm jj (jS (bLt jj jj) (jn (jt jj (jp (js (jb (jr (jL jj jj jj (jm jj (jm jj (jS (bMu jj jj e1) (jS (ru_call C1 ⟨jj, jj, jj, trivial⟩) (jS (ru_call C2 ⟨jj, jj, trivial⟩) (jP jj jj jj jj (jn (jr (jm jj (jS (bAd jj jj e2) (ja jj (jn ?_))))))))))))))))))))))))
  refine ⟨⟨k + 1, by omega⟩, ?_, by dsimp only; omega⟩
  refine Sub.mk ?_ ?_ <;> repeat (first | exact trivial | refine jv jj ?_ | refine jy jj ?_ | refine jw jj (js0 jj) ?_ | refine ⟨⟨_, jj, PLe.refl _⟩, trivial, ?_⟩)
 ·have : k = m := by omega
  subst this
  by_cases hodd : n % 2 = 1
  ·have hd : dia p n c = ((1 : Int) : Rat) / dvs p k := by
    unfold dia
    rw [if_neg hn0, if_pos hodd, hm, Nat.add_sub_cancel]
   rw [hd]
   have Q1 := krquo En ((1 : Int) : Rat) (dvs p k) (S1.mono (by omega)) (Sd.mono (by omega)) (dvs_ne hp k)
   refine js (js (jr (jm jj (jm jj (jS (bLf jj jj) (jn (jf jj (je (js (js (jr (jF jj jj (jl jj jj jj (jS (bRe jj jj em) (jS (bEf jj jj) (jn (jf jj (jp (js (jr (jS (ru_call W1 ⟨jj, trivial⟩) (jL jj jj jj (jS (ru_call Q1 ⟨jj, jj, trivial⟩) (jm jj (jx' jj jj (jx' jj jj (jA jj jj jj (jP jj jj jj jj (ja jj (jn (js (jr (jL jj jj jj (jP jj jj jj jj (jn (ji ?_))))))))))))))))))))))))))))))))))))
   exact ret1 rfl (.cell rfl rfl CRow.ok rfl) (PLe.refl _)
  ·have hd : dia p n c = ((1 : Int) : Rat) / (dvs p k * fct p c (k + 1)) := by
    unfold dia
    rw [if_neg hn0, if_neg hodd, hm, Nat.add_sub_cancel]
   rw [hd]
   have hev : n % 2 = 0 := by omega
   have Sf := sz_fct hp hp2 c1 c2 (e := k + 1) (by omega)
   have C1 := mfactor En p c (k + 1) hp hp2 c1 c2 (by omega) (by omega)
   have C2 := krmul En (dvs p k) (fct p c (k + 1)) (Sd.mono (by omega)) (Sf.mono (by omega))
   have hne : dvs p k * fct p c (k + 1) ≠ 0 := fun h => (Rat.mul_eq_zero.1 h).elim (dvs_ne hp k) (fct_ne hp (by omega) c1 c2)
   have Q1 := krquo En ((1 : Int) : Rat) (dvs p k * fct p c (k + 1)) (S1.mono (by omega)) ((szq_mul Sd Sf).mono (by omega)) hne
   refine js (js (jr (jm jj (jm jj (jS (bLf jj jj) (jn (jf jj (je (js (js (jr (jF jj jj (jl jj jj jj (jS (bRe jj jj em) (jS (bEt jj jj) (jn (jt jj (jr (jL jj jj jj (jm jj (jF jj jj (jl jj jj jj (jm jj (jS (ru_call C1 ⟨jj, jj, jj, trivial⟩) (jS (ru_call C2 ⟨jj, jj, trivial⟩) (jP jj jj jj jj (jn (js (jr (jS (ru_call W1 ⟨jj, trivial⟩) (jL jj jj jj (jS (ru_call Q1 ⟨jj, jj, trivial⟩) (jm jj (jx' jj jj (jx' jj jj (jA jj jj jj (jP jj jj jj jj (ja jj (jn (js (jr (jL jj jj jj (jP jj jj jj jj (jn ?_))))))))))))))))))))))))))))))))))))))))))))
   refine ji ?_
   exact ret1 rfl (.cell rfl rfl CRow.ok rfl) (PLe.refl _)
end
section
variable (En : Ev)
end
end Go.Proofs.YtdieokoenhncfaaGreatDoor
/- The tables of the program (two package variables); the scene's prime numbers; prime.Is, prime.Discriminant as contracts. -/
namespace Go.Proofs.YtdieokoenhncfaaGreatDoor
open Go.RowKit Limb Num
instance cbody84 : CBody Tryz.prog 84 := ⟨⟨_, Tryz.func84, rfl, by rfl⟩⟩
instance cbody47 : CBody Tryz.prog 47 := ⟨⟨_, Tryz.func47, rfl, by rfl⟩⟩
instance cbody77 : CBody Tryz.prog 77 := ⟨⟨_, Tryz.func77, rfl, by rfl⟩⟩
def mrow : List (Bool × Bool × Int × Int × Int) := [(false, false, 0, 0, 2), (false, true, 0, 1, 0), (true, true, 1, 0, 0), (true, true, 0, -1, 0), (true, false, 0, -2, 1), (true, false, 1, -1, 1), (true, false, 7, -1, 1), (true, false, 2, -1, 0), (true, false, 6, -1, 0), (true, false, 3, -1, -1), (true, false, 5, -1, -1), (true, false, 4, -2, -1)]
def mcells (r : Bool × Bool × Int × Int × Int) : List Value := [.bool r.1, .bool r.2.1, .int .i64 r.2.2.1, .int .i64 r.2.2.2.1, .int .i64 r.2.2.2.2]
def mtabV : Array Value := (mrow.flatMap mcells).toArray
def TabM (w : World) : Prop := ∃ t fr, w.heap[0]? = some (.cells mtabV t fr)
def TabD : Ev := ⟨fun w => Tab w ∧ TabM w, fun k => k = 1 ∨ k = 0,
 fun w ⟨⟨t, fr, h⟩, ⟨t', fr', h'⟩⟩ k hk => by rcases hk with rfl | rfl; exact block_lt h; exact block_lt h',
 fun w w' hk ⟨⟨t, fr, h⟩, ⟨t', fr', h'⟩⟩ => ⟨⟨t, fr, by rw [hk _ (.inl rfl)]; exact h⟩, ⟨t', fr', by rw [hk _ (.inr rfl)]; exact h'⟩⟩⟩
theorem Fn.tab {f : FuncId} {ps : List Pd} {r : Pd} (h : Fn Tryz.prog TabE f ps r) : Fn Tryz.prog TabD f ps r := h.env fun _ h => h.1
theorem ex_fnU {h : GH} {w w' : World} {v : Value} {e : Ending} (hh : Holds h w) (he : e = .returned v) (hb : Below w.heap.size w w') : FnPost h w (ex v) e w' := by subst he; exact fn_post hh hb rfl
theorem fis (n : Int) : Fn Tryz.prog TabE 84 [ex (.int .i64 n)] (ex (.bool (isP n.toNat))) := by
 intro h w vs ht hh hv
 obtain ⟨v, rfl, h1⟩ := hv.one
 have h1 : v = .int .i64 n := h1
 subst h1
 refine (is_any n w ht).mono ?_
 rintro e w' ⟨rfl, rfl⟩
 exact fn_post hh (Below.refl _ _) rfl
def od8 (j : Nat) : Nat := ([3, 5, 7, 11, 13, 17, 19, 23] : List Nat).getD j 0
set_option maxHeartbeats 4000000 in
theorem odd_any (k : Int) (w : World) (h1 : 0 ≤ k) (h2 : k ≤ 255) :
  Calls Tryz.prog 77 #[.int .u8 k] w fun e w' => e = .returned (.int .i64 (od8 (k % 8).toNat : Int)) ∧ Below w.heap.size w w' := by
 have hr : k % 8 = 0 ∨ k % 8 = 1 ∨ k % 8 = 2 ∨ k % 8 = 3 ∨ k % 8 = 4 ∨ k % 8 = 5 ∨ k % 8 = 6 ∨ k % 8 = 7 := by omega
 obtain ⟨r, hrr⟩ : ∃ r, k % 8 = r := ⟨_, rfl⟩
 rw [hrr] at hr
 have HR := Lib.hid hrr
 rcases hr with rfl | rfl | rfl | rfl | rfl | rfl | rfl | rfl
 all_goals
  go_enter Tryz.func77, Tryz.ntmps77
  go_wp2_with fail
  go_ret
  refine ⟨?_, (Below.refl _ _).alloc (Nat.le_refl _) _⟩
  first | rfl | (rw [HR.out]; rfl)
theorem fodd (En : Ev) (k : Int) (h1 : 0 ≤ k) (h2 : k ≤ 255) : Fn Tryz.prog En 77 [ex (.int .u8 k)] (ex (.int .i64 (od8 (k % 8).toNat : Int))) := by
 intro h w vs _ hh hv
 obtain ⟨v, rfl, e1⟩ := hv.one
 have e1 : v = .int .u8 k := e1
 subst e1
 exact (odd_any k w h1 h2).mono fun _ _ ⟨he, hb⟩ => ex_fnU hh he hb
end Go.Proofs.YtdieokoenhncfaaGreatDoor
/- Diagonal and Standard: the program's and the reference's. (With LT.skipU.) -/
namespace Go.Proofs.YtdieokoenhncfaaGreatDoor
open Go.RowKit Limb Num
instance cbody24 : CBody Tryz.prog 24 := ⟨⟨_, Tryz.func24, rfl, by rfl⟩⟩
def smP (p : Int) : Bool := decide (p ≤ 9973) && isP p.toNat
theorem smP_bd {p : Int} (h : smP p = true) : 2 ≤ p ∧ p ≤ 9973 ∧ isP p.toNat = true := by
 unfold smP at h
 rw [Bool.and_eq_true] at h
 obtain ⟨h1, h2⟩ := h
 have h1 := of_decide_eq_true h1
 refine ⟨?_, h1, h2⟩
 unfold isP at h2
 rw [Bool.and_eq_true, Bool.and_eq_true] at h2
 have := of_decide_eq_true h2.1.1
 omega
def zero4 : Pd := aggP [ex (.bool false), ex (.slice none 0 0), ex (.bool false), ex (.slice none 0 0)]
section
variable (En : Ev)
theorem qsame0 : Fn Tryz.prog En 34 [zero4, zero4] (ex (.bool true)) := by
 have C1 := (fsame En 0 0 (by decide) (by decide)).arg (ps := [aggP [ex (.bool false), ex (.slice none 0 0)], aggP [ex (.bool false), ex (.slice none 0 0)]]) ⟨zC_nil, zC_nil, trivial⟩
 rw [decide_eq_true rfl] at C1
 refine fn_of_body Tryz.func34 rfl Tryz.ntmps34 rfl ?_
 intro w0 h0
 repeat (first | refine js ?_ | refine jb ?_)
 refine jr (jB jj jj jj (jB jj jj jj (ja jj (jn ?_))))
 repeat (first | refine js ?_ | refine jb ?_)
 refine jr (jF jj jj (jL jj jj jj (jF jj jj (jL jj jj jj (jS (ru_call C1 ⟨jj, jj, trivial⟩) (jm jj ?_))))))
 first | refine jg (ru_fieldAddr jj jj) ?_ | refine jk ?_ | refine ju ?_
 first | refine jg (ru_loadR jj jj jj jj) ?_ | refine jk ?_ | refine ju ?_
 first | refine jg (ru_fieldAddr jj jj) ?_ | refine jk ?_ | refine ju ?_
 first | refine jg (ru_loadR jj jj jj jj) ?_ | refine jk ?_ | refine ju ?_
 first | refine jg (ru_call C1 ⟨jj, jj, trivial⟩) ?_ | refine jk ?_ | refine ju ?_
 first | refine jq jj jj ?_ | refine jQ jj jj ?_
 refine ja jj (jn ?_)
 repeat (first | refine js ?_ | refine jb ?_)
 refine WpD.ret ?_
 exact ret1 rfl (.tmp rfl) (PLe.refl _)
theorem rsmall (p : Int) : Fn Tryz.prog En 143 [ex (.int .i64 p)] (ex (.bool (smP p))) := by
 have C1 := gris En p
 unfold smP
 by_cases h : p ≤ 9973
 ·rw [decide_eq_true h, Bool.true_and]
  refine fn_of_body Tryz.func143 rfl Tryz.ntmps143 rfl ?_
  intro w0 h0
  refine js (jr (ja jj (jn (js (jr (jm jj (jS (bMt jj jj) (jm jj (jg (rt_move jj) (jg (ru_call C1 ⟨jj, trivial⟩) (jq jj jj (ja jj (jn (ji ?_))))))))))))))
  exact ret1 rfl (.tmp rfl) (PLe.refl _)
 ·rw [decide_eq_false h, Bool.false_and]
  refine fn_of_body Tryz.func143 rfl Tryz.ntmps143 rfl ?_
  intro w0 h0
  refine js (jr (ja jj (jn (js (jr (jm jj (jS (bMf jj jj) (jm jj (jk (jk (jQ jj jj (ja jj (jn (ji ?_))))))))))))))
  exact ret1 rfl (.tmp rfl) (PLe.refl _)
end
theorem mallowed (p : Int) : Fn Tryz.prog TabE 46 [ex (.int .i64 p)] (ex (.bool (smP p))) := by
 have C1 := fis p
 unfold smP
 by_cases h : p ≤ 9973
 ·rw [decide_eq_true h, Bool.true_and]
  refine fn_of_body Tryz.func46 rfl Tryz.ntmps46 rfl ?_
  intro w0 h0
  refine js (jr (ja jj (jn (js (jr (jm jj (jS (bMt jj jj) (jm jj (jg (rt_move jj) (jg (ru_call C1 ⟨jj, trivial⟩) (jq jj jj (ja jj (jn (ji ?_))))))))))))))
  exact ret1 rfl (.tmp rfl) (PLe.refl _)
 ·rw [decide_eq_false h, Bool.false_and]
  refine fn_of_body Tryz.func46 rfl Tryz.ntmps46 rfl ?_
  intro w0 h0
  refine js (jr (ja jj (jn (js (jr (jm jj (jS (bMf jj jj) (jm jj (jk (jk (jQ jj jj (ja jj (jn (ji ?_))))))))))))))
  exact ret1 rfl (.tmp rfl) (PLe.refl _)
end Go.Proofs.YtdieokoenhncfaaGreatDoor
/- Symbols: species, cross term, types, mass. (With LT.skipU.) -/
namespace Go.Proofs.YtdieokoenhncfaaGreatDoor
open Go.RowKit Limb Num
instance cbody66 : CBody Tryz.prog 66 := ⟨⟨_, Tryz.func66, rfl, by rfl⟩⟩
instance cbody35 : CBody Tryz.prog 35 := ⟨⟨_, Tryz.func35, rfl, by rfl⟩⟩
instance cbody11 : CBody Tryz.prog 11 := ⟨⟨_, Tryz.func11, rfl, by rfl⟩⟩
instance cbody13 : CBody Tryz.prog 13 := ⟨⟨_, Tryz.func13, rfl, by rfl⟩⟩
instance cbody18 : CBody Tryz.prog 18 := ⟨⟨_, Tryz.func18, rfl, by rfl⟩⟩
instance cbody27 : CBody Tryz.prog 27 := ⟨⟨_, Tryz.func27, rfl, by rfl⟩⟩
instance cbody94 : CBody Tryz.prog 94 := ⟨⟨_, Tryz.func94, rfl, by rfl⟩⟩
instance cbody95 : CBody Tryz.prog 95 := ⟨⟨_, Tryz.func95, rfl, by rfl⟩⟩
instance cbody52 : CBody Tryz.prog 52 := ⟨⟨_, Tryz.func52, rfl, by rfl⟩⟩
structure Co where
 e : Int
 d : Int
 s : Int
 o : Bool
 y : Int
def coc (c : Co) : List Pd := [ex (.int .i64 c.e), ex (.int .i64 c.d), ex (.int .i64 c.s), ex (.bool c.o), ex (.int .i64 c.y)]
def ccs (f : Nat → Co) : Nat → List Pd := fun i => coc (f i)
theorem ccs_len (f : Nat → Co) (i : Nat) : (ccs f i).length = 5 := rfl
def locP (p : Int) (f : Nat → Co) (n : Nat) : Pd := aggP [ex (.int .i64 p), slc 5 (rows (ccs f) n) n]
def mro (i : Nat) : Bool × Bool × Int × Int × Int := mrow.getD i (false, false, 0, 0, 0)
def mtc : Nat → List Pd := fun i => (mcells (mro i)).map ex
theorem mtab_rows : mtabV.toList.map ex = rows mtc 12 := rfl
theorem mtab_one : ∀ v ∈ mtabV.toList, v.oneCell' = true := by decide +kernel
theorem mtab_at (w : World) (h : TabD.e w) : w.rangeAt 0 0 mtabV.toList := by
 obtain ⟨_, t, fr, h⟩ := h
 intro j v hv
 rw [Nat.zero_add]
 simp only [World.cell?, h]
 simpa using hv
theorem mrow_bd : ∀ i : Fin 12, -2 ≤ (mro i.1).2.2.2.1 ∧ (mro i.1).2.2.2.1 ≤ 1 := by decide +kernel
def fits (o b : Bool) (k : Int) (m : Nat) : Prop := m < 12 ∧ (mro m).1 = o ∧ (mro m).2.1 = b ∧ (mro m).2.2.1 = k ∧ ∀ j, j < m → ¬ ((mro j).1 = o ∧ (mro j).2.1 = b ∧ (mro j).2.2.1 = k)
def rowS (d s : Int) (m : Nat) : Pd := aggP [ex (.int .i64 (d + (mro m).2.2.2.1)), ex (.int .i64 (if (mro m).2.2.2.2 = 2 then s else (mro m).2.2.2.2))]
end Go.Proofs.YtdieokoenhncfaaGreatDoor
/- Symbols: species, cross term, types, mass. (With LT.skipU.) -/
namespace Go.Proofs.YtdieokoenhncfaaGreatDoor
open Go.RowKit Limb Num
def spC (f : Nat → Co) (e : Int) : Nat → Co
 | 0 => ⟨e, 0, 1, false, 0⟩
 | i + 1 => if (f i).e = e then f i else spC f e i
def spB (f : Nat → Co) (e : Int) : Nat → Bool
 | 0 => false
 | i + 1 => if (f i).e = e then spB f e i else if (f i).e = e - 1 ∨ (f i).e = e + 1 then (spB f e i || (f i).o) else spB f e i
set_option maxHeartbeats 1000000 in
theorem mspecies2 (f : Nat → Co) (n : Nat) (e : Int) (hn : n ≤ 1000) (he1 : -1 ≤ e) (he2 : e ≤ 1000) (R : List Pd) (hl : ∃ a b, R = [a, b]) (hD : Fn Tryz.prog TabD 66 [aggP (coc (spC f e n)), ex (.bool (spB f e n))] (aggP R)) : Fn Tryz.prog TabD 35 [locP 2 f n, ex (.int .i64 e)] (aggP R) := by
 obtain ⟨r1, r2, rfl⟩ := hl
 unfold locP
 refine fn_of_body Tryz.func35 rfl Tryz.ntmps35 rfl ?_
 intro w0 h0
 refine js (jr (jB jj jj jj (jA jj jj jj (jn (js (jr (jm jj (jS (ru_build (ps := [(_, _), (_, _)]) ⟨jj, Part.c jj, jj, Part.c jj, trivial⟩ jj) (jA jj jj jj (jP jj jj jj jj (jn (js (jr (ja jj (jn (js (js (jr (jF jj jj (jl jj jj jj (jE jj (jm jj (jn (jb ?_))))))))))))))))))))))))
 refine WpD.loop (α := {i : Nat // i ≤ n}) (fun i => ⟨[(1, .one (ex (.int .i64 e))), (2, .ptr 2 0), (4, .ptr 4 0), (5, .ptr 5 0), (6, .one (ex (.bool (spB f e i.1)))), (12, .one (slc 5 (rows (ccs f) n) n)), (13, .one (ex (.int .i64 (n : Int)))), (14, .one (ex (.int .i64 (i.1 : Int))))], [(2, [ex (.int .i64 2), slc 5 (rows (ccs f) n) n]), (4, [ex (.int .i64 0), ex (.int .i64 0)]), (5, coc (spC f e i.1))]⟩) (fun i => n - i.1) ⟨0, Nat.zero_le _⟩ ?_ ?_
 ·refine Sub.mk ?_ ?_ <;> repeat (first | exact trivial | refine jv jj ?_ | refine jy jj ?_ | refine jw jj (js0 jj) ?_ | refine ⟨⟨_, jj, PLe.refl _⟩, trivial, ?_⟩)
 rintro ⟨i, hi⟩
 dsimp only at hi ⊢
 by_cases hlt : i < n
 ·have hq : ((rows (ccs f) n).drop (i * 5)).take 5 = coc (f i) := rows_get (ccs_len f) hlt
  have w1 := wS i (by omega)
  have w2 : IntKind.i64.wrap (e - 1) = e - 1 := w64 (by omega) (by omega)
  have w3 : IntKind.i64.wrap (e + 1) = e + 1 := w64 (by omega) (by omega)
  by_cases q0 : (f i).e = e
  ·have c1 : spC f e (i + 1) = f i := if_pos q0
   have c2 : spB f e (i + 1) = spB f e i := if_pos q0
   refine js (jr (jS (bLt jj jj) (jn (js (jt jj (jp (js (jb (js (jr (jS (rc_indexS jj jj hlt hq) (jS (rc_loadR jj jj jj) (jA jj jj jj (jP jj jj jj jj (jn (js (jr (jF jj jj (jl jj jj jj (jn (jb (js (jr (jm jj (jS (bEt jj jj) (ja jj (jn (jt jj (jr (jL jj jj jj (jP jj jj jj jj (jn (jr (jS (bAd jj jj w1) (jm jj (jn ?_))))))))))))))))))))))))))))))))))))
   refine ⟨⟨i + 1, by omega⟩, ?_, by dsimp only; omega⟩
   dsimp only
   rw [c1, c2]
   refine Sub.mk ?_ ?_ <;> repeat (first | exact trivial | refine jv jj ?_ | refine jy jj ?_ | refine jw jj (js0 jj) ?_ | refine ⟨⟨_, jj, PLe.refl _⟩, trivial, ?_⟩)
  ·have c1 : spC f e (i + 1) = spC f e i := if_neg q0
   by_cases q1 : (f i).e = e - 1
   ·have c2 : spB f e (i + 1) = (spB f e i || (f i).o) := by rw [spB, if_neg q0, if_pos (.inl q1)]
    cases hB : spB f e i with
    | true =>
     rw [hB, Bool.true_or] at c2
     refine js (jr (jS (bLt jj jj) (jn (js (jt jj (jp (js (jb (js (jr (jS (rc_indexS jj jj hlt hq) (jS (rc_loadR jj jj jj) (jA jj jj jj (jP jj jj jj jj (jn (js (jr (jF jj jj (jl jj jj jj (jn (jb (js (jr (jm jj (jS (bEf jj jj) (ja jj (jn (jf jj (js (js (jr (jm jj (jS (bSu jj jj w2) (jS (bEt jj jj) (ja jj (jn (jt jj (jp (jt jj (jr (jm jj (jm jj ?_))))))))))))))))))))))))))))))))))))))))))
     first | refine jg (ru_fieldAddr jj jj) ?_ | refine jk ?_ | refine ju ?_
     first | refine jg (ru_load1 jj jj jj) ?_ | refine jk ?_ | refine ju ?_
     first | refine jq jj jj ?_ | refine jQ jj jj ?_
     refine ja jj (jn (jr (jS (bAd jj jj w1) (jm jj (jn ?_)))))
     refine ⟨⟨i + 1, by omega⟩, ?_, by dsimp only; omega⟩
     dsimp only
     rw [c1, c2]
     refine Sub.mk ?_ ?_ <;> repeat (first | exact trivial | refine jv jj ?_ | refine jy jj ?_ | refine jw jj (js0 jj) ?_ | refine ⟨⟨_, jj, PLe.refl _⟩, trivial, ?_⟩)
    | false =>
     rw [hB, Bool.false_or] at c2
     refine js (jr (jS (bLt jj jj) (jn (js (jt jj (jp (js (jb (js (jr (jS (rc_indexS jj jj hlt hq) (jS (rc_loadR jj jj jj) (jA jj jj jj (jP jj jj jj jj (jn (js (jr (jF jj jj (jl jj jj jj (jn (jb (js (jr (jm jj (jS (bEf jj jj) (ja jj (jn (jf jj (js (js (jr (jm jj (jS (bSu jj jj w2) (jS (bEt jj jj) (ja jj (jn (jt jj (jp (jt jj (jr (jm jj (jm jj ?_))))))))))))))))))))))))))))))))))))))))))
     first | refine jg (ru_fieldAddr jj jj) ?_ | refine jk ?_ | refine ju ?_
     first | refine jg (ru_load1 jj jj jj) ?_ | refine jk ?_ | refine ju ?_
     first | refine jq jj jj ?_ | refine jQ jj jj ?_
     refine ja jj (jn (jr (jS (bAd jj jj w1) (jm jj (jn ?_)))))
     refine ⟨⟨i + 1, by omega⟩, ?_, by dsimp only; omega⟩
     dsimp only
     rw [c1, c2]
     refine Sub.mk ?_ ?_ <;> repeat (first | exact trivial | refine jv jj ?_ | refine jy jj ?_ | refine jw jj (js0 jj) ?_ | refine ⟨⟨_, jj, PLe.refl _⟩, trivial, ?_⟩)
   ·by_cases q2 : (f i).e = e + 1
    ·have c2 : spB f e (i + 1) = (spB f e i || (f i).o) := by rw [spB, if_neg q0, if_pos (.inr q2)]
     cases hB : spB f e i with
     | true =>
      rw [hB, Bool.true_or] at c2
      refine js (jr (jS (bLt jj jj) (jn (js (jt jj (jp (js (jb (js (jr (jS (rc_indexS jj jj hlt hq) (jS (rc_loadR jj jj jj) (jA jj jj jj (jP jj jj jj jj (jn (js (jr (jF jj jj (jl jj jj jj (jn (jb (js (jr (jm jj (jS (bEf jj jj) (ja jj (jn (jf jj (js (js (jr (jm jj (jS (bSu jj jj w2) (jS (bEf jj jj) (ja jj (jn (jf jj (jr (jm jj (jS (bAd jj jj w3) (jS (bEt jj jj) (ja jj (jn ?_)))))))))))))))))))))))))))))))))))))))))))
      refine jt jj (jr (jm jj (jm jj ?_)))
      first | refine jg (ru_fieldAddr jj jj) ?_ | refine jk ?_ | refine ju ?_
      first | refine jg (ru_load1 jj jj jj) ?_ | refine jk ?_ | refine ju ?_
      first | refine jq jj jj ?_ | refine jQ jj jj ?_
      refine ja jj (jn (jr (jS (bAd jj jj w1) (jm jj (jn ?_)))))
      refine ⟨⟨i + 1, by omega⟩, ?_, by dsimp only; omega⟩
      dsimp only
      rw [c1, c2]
      refine Sub.mk ?_ ?_ <;> repeat (first | exact trivial | refine jv jj ?_ | refine jy jj ?_ | refine jw jj (js0 jj) ?_ | refine ⟨⟨_, jj, PLe.refl _⟩, trivial, ?_⟩)
     | false =>
      rw [hB, Bool.false_or] at c2
      refine js (jr (jS (bLt jj jj) (jn (js (jt jj (jp (js (jb (js (jr (jS (rc_indexS jj jj hlt hq) (jS (rc_loadR jj jj jj) (jA jj jj jj (jP jj jj jj jj (jn (js (jr (jF jj jj (jl jj jj jj (jn (jb (js (jr (jm jj (jS (bEf jj jj) (ja jj (jn (jf jj (js (js (jr (jm jj (jS (bSu jj jj w2) (jS (bEf jj jj) (ja jj (jn (jf jj (jr (jm jj (jS (bAd jj jj w3) (jS (bEt jj jj) (ja jj (jn ?_)))))))))))))))))))))))))))))))))))))))))))
      refine jt jj (jr (jm jj (jm jj ?_)))
      first | refine jg (ru_fieldAddr jj jj) ?_ | refine jk ?_ | refine ju ?_
      first | refine jg (ru_load1 jj jj jj) ?_ | refine jk ?_ | refine ju ?_
      first | refine jq jj jj ?_ | refine jQ jj jj ?_
      refine ja jj (jn (jr (jS (bAd jj jj w1) (jm jj (jn ?_)))))
      refine ⟨⟨i + 1, by omega⟩, ?_, by dsimp only; omega⟩
      dsimp only
      rw [c1, c2]
      refine Sub.mk ?_ ?_ <;> repeat (first | exact trivial | refine jv jj ?_ | refine jy jj ?_ | refine jw jj (js0 jj) ?_ | refine ⟨⟨_, jj, PLe.refl _⟩, trivial, ?_⟩)
    ·have c2 : spB f e (i + 1) = spB f e i := by rw [spB, if_neg q0, if_neg (by omega)]
     refine js (jr (jS (bLt jj jj) (jn (js (jt jj (jp (js (jb (js (jr (jS (rc_indexS jj jj hlt hq) (jS (rc_loadR jj jj jj) (jA jj jj jj (jP jj jj jj jj (jn (js (jr (jF jj jj (jl jj jj jj (jn (jb (js (jr (jm jj (jS (bEf jj jj) (ja jj (jn (jf jj (js (js (jr (jm jj (jS (bSu jj jj w2) (jS (bEf jj jj) (ja jj (jn (jf jj (jr (jm jj (jS (bAd jj jj w3) (jS (bEf jj jj) (ja jj (jn ?_)))))))))))))))))))))))))))))))))))))))))))
     refine jf jj (jp (jr (jS (bAd jj jj w1) (jm jj (jn ?_)))))
     refine ⟨⟨i + 1, by omega⟩, ?_, by dsimp only; omega⟩
     dsimp only
     rw [c1, c2]
     refine Sub.mk ?_ ?_ <;> repeat (first | exact trivial | refine jv jj ?_ | refine jy jj ?_ | refine jw jj (js0 jj) ?_ | refine ⟨⟨_, jj, PLe.refl _⟩, trivial, ?_⟩)
 ·have : i = n := by omega
  subst this
  refine js (jr (jS (bLf jj jj) (jn (js (jf jj (je (js (js (jr (jF jj jj (jl jj jj jj (jS (bEt jj jj) (jn (jt jj (js (jr (jL jj jj jj (jm jj (jS (ru_call hD ⟨jj, jj, trivial⟩) (jP jj jj jj jj (jn (ji ?_))))))))))))))))))))))
  exact ret1 rfl (.cell rfl rfl CRow.ok rfl) (PLe.refl _)
end Go.Proofs.YtdieokoenhncfaaGreatDoor
/- Symbols: cross term, types, mass. (With LT.skipU.) -/
namespace Go.Proofs.YtdieokoenhncfaaGreatDoor
open Go.RowKit Limb Num
def crI (f : Nat → Co) (j : Nat) : Nat → Int
 | 0 => 0
 | i + 1 => crI f j i + ((f j).e - (f i).e) * (f i).d * (f j).d
def crH (f : Nat → Co) : Nat → Int
 | 0 => 0
 | j + 1 => crH f j + crI f j j
theorem rows_take {f : Nat → List Pd} {k : Nat} (hf : ∀ i, (f i).length = k) : ∀ {n j : Nat}, j ≤ n → (rows f n).take (j * k) = rows f j
 | 0, j, h => by obtain rfl : j = 0 := (by omega); rw [Nat.zero_mul]; rfl
 | n + 1, j, h => by
  rcases Nat.lt_or_ge n j with h1 | h1
  ·obtain rfl : j = n + 1 := by omega
   rw [List.take_of_length_le (by rw [rows_len hf]; exact Nat.le_refl _)]
  ·rw [rows_succ, List.take_append_of_le_length (by rw [rows_len hf]; exact Nat.mul_le_mul_right _ h1), rows_take hf h1]
structure OkL (f : Nat → Co) (n : Nat) : Prop where
 n1 : 1 ≤ n
 n8 : n ≤ 8
 e0 : ∀ i, i < n → 0 ≤ (f i).e
 e1 : ∀ i, i < n → (f i).e ≤ 100
 d0 : ∀ i, i < n → 1 ≤ (f i).d
 d8 : ∀ i, i < n → (f i).d ≤ 8
 up : ∀ i j, i < j → j < n → (f i).e < (f j).e
theorem term_bd {a b c : Int} (h1 : 0 ≤ a) (h2 : a ≤ 100) (h3 : 0 ≤ b) (h4 : b ≤ 8) (h5 : 0 ≤ c) (h6 : c ≤ 8) : 0 ≤ a * b ∧ a * b ≤ 800 ∧ 0 ≤ a * b * c ∧ a * b * c ≤ 6400 := by
 have k1 : 0 ≤ a * b := Int.mul_nonneg h1 h3
 have k2 : a * b ≤ 100 * 8 := Int.mul_le_mul h2 h4 h3 (by omega)
 have k3 : 0 ≤ a * b * c := Int.mul_nonneg k1 h5
 have k4 : a * b * c ≤ 800 * 8 := Int.mul_le_mul (by omega) h6 h5 (by omega)
 omega
theorem crI_bd {f : Nat → Co} {n : Nat} (H : OkL f n) {j : Nat} (hj : j < n) : ∀ {i : Nat}, i ≤ j → 0 ≤ crI f j i ∧ crI f j i ≤ (i : Int) * 6400
 | 0, _ => by simp [crI]
 | i + 1, h => by
  have ih := crI_bd H hj (i := i) (by omega)
  have t := term_bd (a := (f j).e - (f i).e) (b := (f i).d) (c := (f j).d) (by have := H.up i j (by omega) hj; omega) (by have := H.e0 i (by omega); have := H.e1 j hj; omega)
   (by have := H.d0 i (by omega); omega) (H.d8 i (by omega)) (by have := H.d0 j hj; omega) (H.d8 j hj)
  rw [crI]
  generalize crI f j i = x at *
  omega
theorem crH_bd {f : Nat → Co} {n : Nat} (H : OkL f n) : ∀ {j : Nat}, j ≤ n → 0 ≤ crH f j ∧ crH f j ≤ (j : Int) * 51200
 | 0, _ => by simp [crH]
 | j + 1, h => by
  have ih := crH_bd H (j := j) (by omega)
  have t := crI_bd H (j := j) (i := j) (by omega) (by omega)
  have := H.n8
  rw [crH]
  generalize crH f j = x at *
  generalize crI f j j = y at *
  omega
def halfP (r : Rat) (b : Bool) : Pd := aggP (qCells r ++ [ex (.bool b)])
def halfB (h : Int) : Bool := decide (h % 2 = 1)
def crA (p h : Int) : Pd := if h ≤ 128 then tupP [halfP (((p : Int) : Rat) ^ (h.toNat / 2)) (halfB h), ex (.int .i64 0)] else tupP [aggP [ex (.bool false), ex (.slice none 0 0), ex (.bool false), ex (.slice none 0 0), ex (.bool false)], ex (.int .i64 7)]
set_option maxHeartbeats 1000000 in
theorem mCross (En : Ev) (p : Int) (f : Nat → Co) (n : Nat) (H : OkL f n) (hp : 2 ≤ p) (hp2 : p ≤ 9973) (hA : Fn Tryz.prog En 27 [locP p f n] (ex (.bool true))) : Fn Tryz.prog En 11 [locP p f n] (crA p (crH f n)) := by
 unfold locP at hA ⊢
 have hn8 := H.n8
 refine fn_of_body Tryz.func11 rfl Tryz.ntmps11 rfl ?_
 intro w0 h0
 refine js (jr (jB jj jj jj (jA jj jj jj (ja jj (jn (js (js (jr (jL jj jj jj (jS (ru_call hA ⟨jj, trivial⟩) (jS (bNo jj) (jn (jf jj (jp (js (jr (ja jj (jn (js (js (jr (jF jj jj (jl jj jj jj (jE jj (jm jj (jn (jb ?_)))))))))))))))))))))))))))
 refine WpD.loop (α := {j : Nat // j ≤ n}) (fun j => ⟨[(1, .ptr 1 0), (2, .ptr 2 0), (4, .one (ex (.int .i64 (crH f j.1)))), (16, .one (slc 5 (rows (ccs f) n) n)), (17, .one (ex (.int .i64 (n : Int)))), (18, .one (ex (.int .i64 (j.1 : Int))))], [(1, [ex (.int .i64 p), slc 5 (rows (ccs f) n) n]), (2, [ex (.bool false), ex (.slice none 0 0), ex (.bool false), ex (.slice none 0 0), ex (.bool false)])]⟩) (fun j => n - j.1) ⟨0, Nat.zero_le _⟩ ?_ ?_
 ·refine Sub.mk ?_ ?_ <;> repeat (first | exact trivial | refine jv jj ?_ | refine jy jj ?_ | refine jw jj (js0 jj) ?_ | refine ⟨⟨_, jj, PLe.refl _⟩, trivial, ?_⟩)
 rintro ⟨j, hj⟩
 dsimp only at hj ⊢
 obtain ⟨b1, b2⟩ := crH_bd H hj
 by_cases hlt : j < n
 ·have hq : ((rows (ccs f) n).drop (j * 5)).take 5 = coc (f j) := rows_get (ccs_len f) hlt
  have w1 := wS j (by omega)
  have hqs : (rows (ccs f) n).take (j * 5) = rows (ccs f) j := rows_take (ccs_len f) (by omega)
  have hjn : j ≤ n := by omega
  refine js (jr (jS (bLt jj jj) (jn (js (jt jj (jp (js (jb (js (jr (jm jj (jS (rc_indexS jj jj hlt hq) (jS (rc_loadR jj jj jj) (jA jj jj jj (ja jj (jP jj jj jj jj (jn (js (jr (jF jj jj (jl jj jj jj (jm jj (jS (rc_sliceHS jj jj hjn hqs) (jE jj (jm jj (jn (jb ?_)))))))))))))))))))))))))))
  refine WpD.loop (α := {i : Nat // i ≤ j}) (fun i => ⟨[(1, .ptr 1 0), (2, .ptr 2 0), (4, .one (ex (.int .i64 (crH f j + crI f j i.1)))), (6, .ptr 6 0), (16, .one (slc 5 (rows (ccs f) n) n)), (17, .one (ex (.int .i64 (n : Int)))), (18, .one (ex (.int .i64 (j : Int)))), (26, .one (slc 5 (rows (ccs f) j) j)), (27, .one (ex (.int .i64 (j : Int)))), (28, .one (ex (.int .i64 (i.1 : Int))))], [(1, [ex (.int .i64 p), slc 5 (rows (ccs f) n) n]), (2, [ex (.bool false), ex (.slice none 0 0), ex (.bool false), ex (.slice none 0 0), ex (.bool false)]), (6, coc (f j))]⟩) (fun i => j - i.1) ⟨0, Nat.zero_le _⟩ ?_ ?_
  ·dsimp only
   rw [show crH f j + crI f j 0 = crH f j from Int.add_zero _]
   refine Sub.mk ?_ ?_ <;> repeat (first | exact trivial | refine jv jj ?_ | refine jy jj ?_ | refine jw jj (js0 jj) ?_ | refine ⟨⟨_, jj, PLe.refl _⟩, trivial, ?_⟩)
  rintro ⟨i, hi⟩
  dsimp only at hi ⊢
  obtain ⟨b3, b4⟩ := crI_bd H hlt hi
  by_cases hil : i < j
  ·have hqi : ((rows (ccs f) j).drop (i * 5)).take 5 = coc (f i) := rows_get (ccs_len f) hil
   have w2 := wS i (by omega)
   have k1 : 0 ≤ (f j).e - (f i).e := by have := H.up i j hil hlt; omega
   have k2 : (f j).e - (f i).e ≤ 100 := by have := H.e0 i (by omega); have := H.e1 j hlt; omega
   have t := term_bd (a := (f j).e - (f i).e) (b := (f i).d) (c := (f j).d) k1 k2 (by have := H.d0 i (by omega); omega) (H.d8 i (by omega)) (by have := H.d0 j hlt; omega) (H.d8 j hlt)
   have a1 : IntKind.i64.wrap ((f j).e - (f i).e) = (f j).e - (f i).e := w64 (by omega) (by omega)
   have a2 : IntKind.i64.wrap (((f j).e - (f i).e) * (f i).d) = ((f j).e - (f i).e) * (f i).d := w64 (by omega) (by omega)
   have a3 : IntKind.i64.wrap (((f j).e - (f i).e) * (f i).d * (f j).d) = ((f j).e - (f i).e) * (f i).d * (f j).d := w64 (by omega) (by omega)
   have a4 : IntKind.i64.wrap (crH f j + crI f j i + ((f j).e - (f i).e) * (f i).d * (f j).d) = crH f j + crI f j (i + 1) := by
    rw [crI, ← Int.add_assoc]
    exact w64 (by omega) (by omega)
   refine js (jr (jS (bLt jj jj) (jn (js (jt jj (jp (js (jb (js (jr (jS (rc_indexS jj jj hil hqi) (jS (rc_loadR jj jj jj) (jA jj jj jj (jP jj jj jj jj (jn (jr (jm jj (jF jj jj (jl jj jj jj (jF jj jj (jl jj jj jj (jS (bSu jj jj a1) (jF jj jj (jl jj jj jj (jS (bMu jj jj a2) (jF jj jj (jl jj jj jj (jS (bMu jj jj a3) (jS (bAd jj jj a4) (ja jj (jn (jr (jS (bAd jj jj w2) (jm jj (jn ?_)))))))))))))))))))))))))))))))))))
   refine ⟨⟨i + 1, by omega⟩, ?_, by dsimp only; omega⟩
   refine Sub.mk ?_ ?_ <;> repeat (first | exact trivial | refine jv jj ?_ | refine jy jj ?_ | refine jw jj (js0 jj) ?_ | refine ⟨⟨_, jj, PLe.refl _⟩, trivial, ?_⟩)
  ·have : i = j := by omega
   subst this
   refine js (jr (jS (bLf jj jj) (jn (js (jf jj (je (jr (jS (bAd jj jj w1) (jm jj (jn ?_))))))))))
   refine ⟨⟨i + 1, by omega⟩, ?_, by dsimp only; omega⟩
   dsimp only
   rw [show crH f (i + 1) = crH f i + crI f i i from rfl]
   refine Sub.mk ?_ ?_ <;> repeat (first | exact trivial | refine jv jj ?_ | refine jy jj ?_ | refine jw jj (js0 jj) ?_ | refine ⟨⟨_, jj, PLe.refl _⟩, trivial, ?_⟩)
 ·have : j = n := by omega
  subst this
  unfold crA
  generalize crH f j = h at *
  obtain ⟨m, rfl⟩ : ∃ m : Nat, h = (m : Int) := ⟨h.toNat, by omega⟩
  by_cases hb : (m : Int) ≤ 128
  ·rw [if_pos hb, Int.toNat_natCast]
   have Sp := sz_z (z := p) (by omega) (by omega)
   have C1 := mwhole En p (by omega) (by omega)
   have C2 := krpow En ((p : Int) : Rat) (m / 2) (Sp.mono (by omega)) (by omega)
   have eb : IntKind.i64.wrap (((m : Nat) : Int).tdiv 2) = ((m / 2 : Nat) : Int) := by
    rw [show ((m : Nat) : Int).tdiv 2 = ((m / 2 : Nat) : Int) from (Int.ofNat_tdiv _ _).symm]
    exact w64 (by omega) (by omega)
   have em : (m : Int).tmod 2 = (m : Int) % 2 := Int.tmod_eq_emod_of_nonneg (by omega)
   have hh : ((m : Int) % 2 == 1) = halfB m := rfl
   refine js (jr (jS (bLf jj jj) (jn (js (jf jj (je (js (js (jr (jm jj (jS (bGf jj jj) (jn (jf jj (jp (js (jr (jF jj jj (jl jj jj jj (jS (ru_call C1 ⟨jj, trivial⟩) (jm jj (jS (bQu jj jj eb) (jS (ru_call C2 ⟨jj, jj, trivial⟩) (jm jj (jx' jj jj (jx' jj jj (jA jj jj jj (jP jj jj jj jj (ja jj (jn (js (jr (jL jj jj jj (jm jj (jS (bRe jj jj em) (jS (rt_bin_to jj jj (fun w => run_eqi w _ _ _ _ _ _) (vbool hh)) (jS (ru_build (ps := [(_, _), (_, _)]) ⟨jj, Part.c jj, jj, Part.c jj, trivial⟩ jj) (jP jj jj jj jj (ja jj (jn (ji ?_))))))))))))))))))))))))))))))))))))))))
   exact ret2 rfl (.cell rfl rfl CRow.ok rfl) (.tmp rfl) (PLe.refl _)
  ·rw [if_neg hb]
   refine js (jr (jS (bLf jj jj) (jn (js (jf jj (je (js (js (jr (jm jj (jS (bGt jj jj) (jn (jt jj (js (jr (jS (ru_build (ps := []) trivial jj) (jP jj jj jj jj (ja jj (jn (ji ?_))))))))))))))))))))
   exact ret2 rfl (.cell rfl rfl CRow.ok rfl) (.tmp rfl) (PLe.refl _)
section
variable (En : Ev)
end
end Go.Proofs.YtdieokoenhncfaaGreatDoor

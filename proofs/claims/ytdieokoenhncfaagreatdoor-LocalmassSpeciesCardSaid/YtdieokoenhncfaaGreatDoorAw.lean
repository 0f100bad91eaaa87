/- Cross term and type factor of every symbol: the program's and the reference's say the same. (With LT.skipU.) -/
import Derived.Test.YtdieokoenhncfaaGreatDoorZa
import Derived.Test.YtdieokoenhncfaaGreatDoorSp
import Derived.Test.YtdieokoenhncfaaGreatDoorMo
import Derived.Test.YtdieokoenhncfaaGreatDoorMy
set_option maxRecDepth 3000
namespace Go.Proofs.YtdieokoenhncfaaGreatDoor
open Go.RowKit Limb Num
instance cbody31 : CBody Tryz.prog 31 := ⟨⟨_, Tryz.func31, rfl, by rfl⟩⟩
instance cbody33 : CBody Tryz.prog 33 := ⟨⟨_, Tryz.func33, rfl, by rfl⟩⟩
instance cbody14 : CBody Tryz.prog 14 := ⟨⟨_, Tryz.func14, rfl, by rfl⟩⟩
instance cbody12 : CBody Tryz.prog 12 := ⟨⟨_, Tryz.func12, rfl, by rfl⟩⟩
instance cbody19 : CBody Tryz.prog 19 := ⟨⟨_, Tryz.func19, rfl, by rfl⟩⟩
def zero5 : Pd := aggP [ex (.bool false), ex (.slice none 0 0), ex (.bool false), ex (.slice none 0 0), ex (.bool false)]
def tyS (f : Nat → Co) (i : Nat) : Int := if (f i).o = false then -(f i).d else if 0 < i ∧ (f (i - 1)).o = true ∧ (f (i - 1)).e = (f i).e - 1 then 1 else 0
def tyU (f : Nat → Co) : Nat → Int
 | 0 => 0
 | i + 1 => tyU f i + tyS f i
theorem tyS_bd {f : Nat → Co} {n i : Nat} (H : OkL f n) (hi : i < n) : -8 ≤ tyS f i ∧ tyS f i ≤ 1 := by
 have := H.d0 i hi
 have := H.d8 i hi
 unfold tyS
 split
 ·omega
 ·split <;> omega
theorem tyU_bd {f : Nat → Co} {n : Nat} (H : OkL f n) : ∀ {i : Nat}, i ≤ n → -8 * (i : Int) ≤ tyU f i ∧ tyU f i ≤ (i : Int)
 | 0, _ => by simp [tyU]
 | i + 1, h => by
  have ih := tyU_bd H (i := i) (by omega)
  have := tyS_bd H (i := i) (by omega)
  rw [tyU]
  generalize tyU f i = x at *
  generalize tyS f i = y at *
  omega
section
variable (En : Ev)
set_option maxHeartbeats 2000000 in
theorem mTypesG (f : Nat → Co) (n : Nat) (H : OkL f n) (hA : Fn Tryz.prog En 27 [locP 2 f n] (ex (.bool true))) : Fn Tryz.prog En 13 [locP 2 f n] (tupP [ex (.int .i64 (tyU f n)), ex (.int .i64 0)]) := by
 have hn8 := H.n8
 unfold locP at hA ⊢
 refine fn_of_body Tryz.func13 rfl Tryz.ntmps13 rfl ?_
 intro w0 h0
 refine js (jr (jB jj jj jj (ja jj (ja jj (jn (js (js (jr (jL jj jj jj (jS (ru_call hA ⟨jj, trivial⟩) (jS (bNo jj) (jn (jf jj (jp (js (js (jr (jF jj jj (jl jj jj jj (jS (bNf jj jj) (jn (jf jj (jp (js (jr (ja jj (jn (js (js (jr (jF jj jj (jl jj jj jj (jE jj (jm jj (jn (jb ?_))))))))))))))))))))))))))))))))))))
 refine WpD.loop (α := {i : Nat // i ≤ n}) (fun i => ⟨[(1, .ptr 1 0), (4, .one (ex (.int .i64 (tyU f i.1)))), (14, .one (slc 5 (rows (ccs f) n) n)), (15, .one (ex (.int .i64 (n : Int)))), (16, .one (ex (.int .i64 (i.1 : Int))))], [(1, [ex (.int .i64 2), slc 5 (rows (ccs f) n) n])]⟩) (fun i => n - i.1) ⟨0, Nat.zero_le _⟩ ?_ ?_
 ·refine Sub.mk ?_ ?_ <;> repeat (first | exact trivial | refine jv jj ?_ | refine jy jj ?_ | refine jw jj (js0 jj) ?_ | refine ⟨⟨_, jj, PLe.refl _⟩, trivial, ?_⟩)
 rintro ⟨i, hi⟩
 dsimp only at hi ⊢
 obtain ⟨t1, t2⟩ := tyU_bd H hi
 by_cases hlt : i < n
 ·have hq : ((rows (ccs f) n).drop (i * 5)).take 5 = [ex (.int .i64 (f i).e), ex (.int .i64 (f i).d), ex (.int .i64 (f i).s), ex (.bool (f i).o), ex (.int .i64 (f i).y)] := rows_get (ccs_len f) hlt
  have w1 := wS i (by omega)
  have b1 := H.d0 i hlt
  have b2 := H.d8 i hlt
  have b3 := H.e0 i hlt
  have b4 := H.e1 i hlt
  have hu : tyU f (i + 1) = tyU f i + tyS f i := rfl
  have hz : tyU f i + 0 = tyU f i := Int.add_zero _
  unfold tyS at hu
  by_cases hi0 : i = 0
  ·have hi0' : ¬ (i : Int) > 0 := by omega
   cases ho : (f i).o with
   | false =>
    rw [ho] at hq
    rw [if_pos ho] at hu
    have ws : IntKind.i64.wrap (tyU f i - (f i).d) = tyU f (i + 1) := by rw [hu]; exact w64 (by omega) (by omega)
    refine js (jr (jS (bLt jj jj) (jn (js (jt jj (jp (js (jb (js (jr (jm jj (jS (rc_indexS jj jj hlt hq) (jS (rc_loadR jj jj jj) (jA jj jj jj (ja jj (jP jj jj jj jj (jn (jb (js (jr (jF jj jj (jl jj jj jj (jS (bNo jj) (ja jj (jn (jt jj (jr (jm jj (jF jj jj (jl jj jj jj (jS (bSu jj jj ws) (ja jj (jn (jr (jS (bAd jj jj w1) (jm jj (jn ?_)))))))))))))))))))))))))))))))))))))
    refine ⟨⟨i + 1, by omega⟩, ?_, by dsimp only; omega⟩
    refine Sub.mk ?_ ?_ <;> repeat (first | exact trivial | refine jv jj ?_ | refine jy jj ?_ | refine jw jj (js0 jj) ?_ | refine ⟨⟨_, jj, PLe.refl _⟩, trivial, ?_⟩)
   | true =>
    rw [ho] at hq
    rw [if_neg (by rw [ho]; decide), if_neg (by omega), hz] at hu
    refine js (jr (jS (bLt jj jj) (jn (js (jt jj (jp (js (jb (js (jr (jm jj (jS (rc_indexS jj jj hlt hq) (jS (rc_loadR jj jj jj) (jA jj jj jj (ja jj (jP jj jj jj jj (jn (jb (js (jr (jF jj jj (jl jj jj jj (jS (bNo jj) (ja jj (jn (jf jj (js (jr (jm jj (jS (bGf jj jj) (jm jj (jk (jk (jk (jk (jk (jk (jk (jQ jj jj (jm jj (jk (jk (jk (jk (jk (jk (jk (jk (jk (jk (jk (jQ jj jj (ja jj (jn ?_))))))))))))))))))))))))))))))))))))))))))))))))))))))
    refine jf jj (jp (jr (jS (bAd jj jj w1) (jm jj (jn ?_)))))
    refine ⟨⟨i + 1, by omega⟩, ?_, by dsimp only; omega⟩
    dsimp only
    rw [hu]
    refine Sub.mk ?_ ?_ <;> repeat (first | exact trivial | refine jv jj ?_ | refine jy jj ?_ | refine jw jj (js0 jj) ?_ | refine ⟨⟨_, jj, PLe.refl _⟩, trivial, ?_⟩)
  ·have hi0' : (i : Int) > 0 := by omega
   have hi1 : i - 1 < n := by omega
   have hq1 : ((rows (ccs f) n).drop ((i - 1) * 5)).take 5 = [ex (.int .i64 (f (i - 1)).e), ex (.int .i64 (f (i - 1)).d), ex (.int .i64 (f (i - 1)).s), ex (.bool (f (i - 1)).o), ex (.int .i64 (f (i - 1)).y)] := rows_get (ccs_len f) hi1
   have wi : IntKind.i64.wrap ((i : Int) - 1) = ((i - 1 : Nat) : Int) := by rw [w64 (by omega) (by omega)]; omega
   have we : IntKind.i64.wrap ((f i).e - 1) = (f i).e - 1 := w64 (by omega) (by omega)
   cases ho : (f i).o with
   | false =>
    rw [ho] at hq
    rw [if_pos ho] at hu
    have ws : IntKind.i64.wrap (tyU f i - (f i).d) = tyU f (i + 1) := by rw [hu]; exact w64 (by omega) (by omega)
    refine js (jr (jS (bLt jj jj) (jn (js (jt jj (jp (js (jb (js (jr (jm jj (jS (rc_indexS jj jj hlt hq) (jS (rc_loadR jj jj jj) (jA jj jj jj (ja jj (jP jj jj jj jj (jn (jb (js (jr (jF jj jj (jl jj jj jj (jS (bNo jj) (ja jj (jn (jt jj (jr (jm jj (jF jj jj (jl jj jj jj (jS (bSu jj jj ws) (ja jj (jn (jr (jS (bAd jj jj w1) (jm jj (jn ?_)))))))))))))))))))))))))))))))))))))
    refine ⟨⟨i + 1, by omega⟩, ?_, by dsimp only; omega⟩
    refine Sub.mk ?_ ?_ <;> repeat (first | exact trivial | refine jv jj ?_ | refine jy jj ?_ | refine jw jj (js0 jj) ?_ | refine ⟨⟨_, jj, PLe.refl _⟩, trivial, ?_⟩)
   | true =>
    rw [ho] at hq
    rw [if_neg (by rw [ho]; decide)] at hu
    cases hp : (f (i - 1)).o with
    | false =>
     rw [hp] at hq1
     rw [if_neg (by rw [hp]; intro h; exact Bool.noConfusion h.2.1), hz] at hu
     refine js (jr (jS (bLt jj jj) (jn (js (jt jj (jp (js (jb (js (jr (jm jj (jS (rc_indexS jj jj hlt hq) (jS (rc_loadR jj jj jj) (jA jj jj jj (ja jj (jP jj jj jj jj (jn (jb (js (jr (jF jj jj (jl jj jj jj (jS (bNo jj) (ja jj (jn (jf jj (js (jr (jm jj (jS (bGt jj jj) (jm jj (jg (ru_fieldAddr jj jj) (jg (ru_load1 jj jj jj) (jg (rt_move jj) (jg (bSu jj jj wi) (jg (rc_indexS jj jj hi1 hq1) (jg (rc_fieldAddr jj jj) (jg (rc_load1 jj jj) (jq jj jj (jm jj (jk (jk (jk (jk (jk (jk (jk (jk (jk (jk (jk (jQ jj jj (ja jj (jn ?_))))))))))))))))))))))))))))))))))))))))))))))))))))))
     refine jf jj (jp (jr (jS (bAd jj jj w1) (jm jj (jn ?_)))))
     refine ⟨⟨i + 1, by omega⟩, ?_, by dsimp only; omega⟩
     dsimp only
     rw [hu]
     refine Sub.mk ?_ ?_ <;> repeat (first | exact trivial | refine jv jj ?_ | refine jy jj ?_ | refine jw jj (js0 jj) ?_ | refine ⟨⟨_, jj, PLe.refl _⟩, trivial, ?_⟩)
    | true =>
     rw [hp] at hq1
     by_cases he : (f (i - 1)).e = (f i).e - 1
     ·rw [if_pos ⟨by omega, hp, he⟩] at hu
      have wa : IntKind.i64.wrap (tyU f i + 1) = tyU f (i + 1) := by rw [hu]; exact w64 (by omega) (by omega)
      refine js (jr (jS (bLt jj jj) (jn (js (jt jj (jp (js (jb (js (jr (jm jj (jS (rc_indexS jj jj hlt hq) (jS (rc_loadR jj jj jj) (jA jj jj jj (ja jj (jP jj jj jj jj (jn (jb (js (jr (jF jj jj (jl jj jj jj (jS (bNo jj) (ja jj (jn (jf jj (js (jr (jm jj (jS (bGt jj jj) (jm jj (jg (ru_fieldAddr jj jj) (jg (ru_load1 jj jj jj) (jg (rt_move jj) (jg (bSu jj jj wi) (jg (rc_indexS jj jj hi1 hq1) (jg (rc_fieldAddr jj jj) (jg (rc_load1 jj jj) (jq jj jj (jm jj (jg (ru_fieldAddr jj jj) (jg (ru_load1 jj jj jj) (jg (rt_move jj) (jg (bSu jj jj wi) (jg (rc_indexS jj jj hi1 hq1) (jg (rc_fieldAddr jj jj) (jg (rc_load1 jj jj) (jg (ru_fieldAddr jj jj) (jg (ru_load1 jj jj jj) (jg (bSu jj jj we) (jg (bEt jj jj) (jq jj jj (ja jj (jn ?_))))))))))))))))))))))))))))))))))))))))))))))))))))))
      refine jt jj (jr (jm jj (jS (bAd jj jj wa) (ja jj (jn (jr (jS (bAd jj jj w1) (jm jj (jn ?_)))))))))
      refine ⟨⟨i + 1, by omega⟩, ?_, by dsimp only; omega⟩
      refine Sub.mk ?_ ?_ <;> repeat (first | exact trivial | refine jv jj ?_ | refine jy jj ?_ | refine jw jj (js0 jj) ?_ | refine ⟨⟨_, jj, PLe.refl _⟩, trivial, ?_⟩)
     ·rw [if_neg (fun h => he h.2.2), hz] at hu
      refine js (jr (jS (bLt jj jj) (jn (js (jt jj (jp (js (jb (js (jr (jm jj (jS (rc_indexS jj jj hlt hq) (jS (rc_loadR jj jj jj) (jA jj jj jj (ja jj (jP jj jj jj jj (jn (jb (js (jr (jF jj jj (jl jj jj jj (jS (bNo jj) (ja jj (jn (jf jj (js (jr (jm jj (jS (bGt jj jj) (jm jj (jg (ru_fieldAddr jj jj) (jg (ru_load1 jj jj jj) (jg (rt_move jj) (jg (bSu jj jj wi) (jg (rc_indexS jj jj hi1 hq1) (jg (rc_fieldAddr jj jj) (jg (rc_load1 jj jj) (jq jj jj (jm jj (jg (ru_fieldAddr jj jj) (jg (ru_load1 jj jj jj) (jg (rt_move jj) (jg (bSu jj jj wi) (jg (rc_indexS jj jj hi1 hq1) (jg (rc_fieldAddr jj jj) (jg (rc_load1 jj jj) (jg (ru_fieldAddr jj jj) (jg (ru_load1 jj jj jj) (jg (bSu jj jj we) (jg (bEf jj jj) (jq jj jj (ja jj (jn ?_))))))))))))))))))))))))))))))))))))))))))))))))))))))
      refine jf jj (jp (jr (jS (bAd jj jj w1) (jm jj (jn ?_)))))
      refine ⟨⟨i + 1, by omega⟩, ?_, by dsimp only; omega⟩
      dsimp only
      rw [hu]
      refine Sub.mk ?_ ?_ <;> repeat (first | exact trivial | refine jv jj ?_ | refine jy jj ?_ | refine jw jj (js0 jj) ?_ | refine ⟨⟨_, jj, PLe.refl _⟩, trivial, ?_⟩)
 ·have : i = n := by omega
  subst this
  refine js (jr (jS (bLf jj jj) (jn (js (jf jj (je (js (jr (jm jj (ja jj (ja jj (jn (ji ?_)))))))))))))
  exact ret2 rfl (.tmp rfl) (.tmp rfl) (PLe.refl _)
end
theorem OkA.p2 {p : Int} {f : Nat → Co} {n : Nat} (H : OkA p f n) : 2 ≤ p ∧ p ≤ 9973 := by
 rcases H.pr with h | h <;> omega
def crG (p : Int) (f : Nat → Co) (n : Nat) : Pd := if accP p f n then crA p (crH f n) else tupP [zero5, ex (.int .i64 22)]
theorem tCross (p : Int) (f : Nat → Co) (n : Nat) (hn : n ≤ 20) : Fn Tryz.prog TabD 11 [locP p f n] (crG p f n) := by
 have C0 := taccept p f n hn
 unfold crG
 by_cases ha : accP p f n
 ·rw [decide_eq_true ha] at C0
  rw [if_pos ha]
  have H := okA ha
  exact mCross TabD p f n H.toOkL H.p2.1 H.p2.2 C0
 ·rw [decide_eq_false ha] at C0
  rw [if_neg ha]
  unfold locP zero5 at *
  refine fn_of_body Tryz.func11 rfl Tryz.ntmps11 rfl ?_
  intro w0 h0
  refine js (jr (jB jj jj jj (jA jj jj jj (ja jj (jn (js (js (jr (jL jj jj jj (jS (ru_call C0 ⟨jj, trivial⟩) (jS (bNo jj) (jn (jt jj (js (jr (jS (ru_build (ps := []) trivial jj) (jP jj jj jj jj (ja jj (jn (ji ?_))))))))))))))))))))
  exact ret2 rfl (.cell rfl rfl CRow.ok rfl) (.tmp rfl) (PLe.refl _)
section
variable (En : Ev)
end
def tyN (p : Int) (f : Nat → Co) (n : Nat) : Int := if p = 2 then tyU f n else 0
def tyA (p : Int) (f : Nat → Co) (n : Nat) : Int × Int := if accP p f n then (tyN p f n, 0) else (0, 22)
def tyT (r : Int × Int) : Pd := tupP [ex (.int .i64 r.1), ex (.int .i64 r.2)]
theorem tTypes (p : Int) (f : Nat → Co) (n : Nat) (hn : n ≤ 20) : Fn Tryz.prog TabD 13 [locP p f n] (tyT (tyA p f n)) := by
 have C0 := taccept p f n hn
 unfold tyT tyA
 by_cases ha : accP p f n
 ·rw [decide_eq_true ha] at C0
  rw [if_pos ha]
  have H := okA ha
  unfold tyN
  by_cases hp : p = 2
  ·rw [if_pos hp]
   subst hp
   exact mTypesG TabD f n H.toOkL C0
  ·rw [if_neg hp]
   exact mTypesO TabD p f n hp C0
 ·rw [decide_eq_false ha] at C0
  rw [if_neg ha]
  unfold locP at *
  refine fn_of_body Tryz.func13 rfl Tryz.ntmps13 rfl ?_
  intro w0 h0
  refine js (jr (jB jj jj jj (ja jj (ja jj (jn (js (js (jr (jL jj jj jj (jS (ru_call C0 ⟨jj, trivial⟩) (jS (bNo jj) (jn (jt jj (js (jr (ja jj (ja jj (jn (ji ?_)))))))))))))))))))
  exact ret2 rfl (.tmp rfl) (.tmp rfl) (PLe.refl _)
end Go.Proofs.YtdieokoenhncfaaGreatDoor
/- Compartments are runs; a free odd constituent is a compartment by itself. Plain. -/
namespace Go.Proofs.YtdieokoenhncfaaGreatDoor
open Go.RowKit Limb Num
def Run (j : Nat → Bool) (g : List Nat) : Prop := ∀ k, k + 1 < g.length → g.getD (k + 1) 0 = g.getD k 0 + 1 ∧ j (g.getD (k + 1) 0) = true
theorem run_one (j : Nat → Bool) (i : Nat) : Run j [i] := fun k hk => by simp at hk
theorem run_snoc {j : Nat → Bool} {g : List Nat} {i : Nat} (h : Run j g) (hl : ∀ x ∈ g.getLast?, x + 1 = i) (hj : j i = true) : Run j (g ++ [i]) := fun k hk => by
 rw [List.length_append, List.length_singleton] at hk
 by_cases e : k + 1 = g.length
 ·have h1 : (g ++ [i]).getD (k + 1) 0 = i := by rw [e]; simp [List.getD]
  have h2 : (g ++ [i]).getD k 0 = g.getD k 0 := by simp only [List.getD, List.getElem?_append_left (show k < g.length by omega)]
  rw [h1, h2]
  have h3 : g.getLast? = some (g.getD k 0) := by
   rw [List.getLast?_eq_getElem?, show g.length - 1 = k by omega]
   simp [List.getD, List.getElem?_eq_getElem (show k < g.length by omega)]
  have := hl _ h3
  exact ⟨by omega, hj⟩
 ·have h1 : (g ++ [i]).getD (k + 1) 0 = g.getD (k + 1) 0 := by simp only [List.getD, List.getElem?_append_left (show k + 1 < g.length by omega)]
  have h2 : (g ++ [i]).getD k 0 = g.getD k 0 := by simp only [List.getD, List.getElem?_append_left (show k < g.length by omega)]
  rw [h1, h2]
  exact h k (by omega)
theorem grps_last {b j : Nat → Bool} {i : Nat} (h : b i = true) : (grps b j (i + 1)).2.getLast? = some i := by
 rw [grps, if_neg (by rw [h]; decide)]
 split <;> simp
theorem grps_run (b j : Nat → Bool) : ∀ n, (∀ g ∈ (grps b j n).1, Run j g) ∧ Run j (grps b j n).2
 | 0 => by
  rw [grps]
  exact ⟨fun g hg => (by cases hg), fun k hk => (by simp at hk)⟩
 | n + 1 => by
  obtain ⟨h1, h2⟩ := grps_run b j n
  rw [grps]
  split
  ·exact ⟨h1, h2⟩
  ·split
   ·rename_i hc
    obtain ⟨c1, c2, c3⟩ := hc
    refine ⟨h1, run_snoc h2 (fun x hx => ?_) c3⟩
    have := grps_last (b := b) (j := j) (i := n - 1) c2
    rw [show n - 1 + 1 = n by omega] at this
    rw [this] at hx
    cases hx
    omega
   ·refine ⟨fun g hg => ?_, run_one j n⟩
    dsimp only at hg
    split at hg
    ·exact h1 g hg
    ·rcases List.mem_append.1 hg with h | h
     ·exact h1 g h
     ·simp at h; subst h; exact h2
theorem allG_run {b j : Nat → Bool} {n : Nat} : ∀ g ∈ allG (grps b j n), Run j g := by
 obtain ⟨h1, h2⟩ := grps_run b j n
 intro g hg
 unfold allG at hg
 split at hg
 ·exact h1 g hg
 ·rcases List.mem_append.1 hg with h | h
  ·exact h1 g h
  ·simp at h; subst h; exact h2
theorem free_one {f : Nat → Co} {n i : Nat} (hi : i < n) (ho : (f i).o = true) (hfr : ∀ k, k < n → (f k).o = true → (f k).e ≠ (f i).e - 1 ∧ (f k).e ≠ (f i).e + 1) : cof (comp f n) i = [i] := by
 obtain ⟨a, b⟩ := cof_spec (comp_mem.2 ⟨hi, ho⟩)
 have hr : Run (nextE f) (cof (comp f n) i) := allG_run _ a
 have hm : ∀ x ∈ cof (comp f n) i, x < n ∧ (f x).o = true := fun x hx => comp_mem.1 (List.mem_flatten.2 ⟨_, a, hx⟩)
 generalize cof (comp f n) i = g at *
 obtain ⟨k, hk, e⟩ := List.getElem_of_mem b
 have e' : g.getD k 0 = i := by simp [List.getD, List.getElem?_eq_getElem hk, e]
 have hl : g.length = 1 := by
  apply Classical.byContradiction
  intro hne
  rcases Nat.eq_zero_or_pos k with h0 | h0
  ·subst h0
   obtain ⟨r1, r2⟩ := hr 0 (by omega)
   have hx : g.getD (0 + 1) 0 ∈ g := by simp [List.getD, List.getElem?_eq_getElem (show 0 + 1 < g.length by omega)]
   obtain ⟨m1, m2⟩ := hm _ hx
   unfold nextE at r2
   have r2 := of_decide_eq_true r2
   rw [r1, e', Nat.add_sub_cancel] at r2
   rw [r1, e'] at m1 m2
   exact (hfr _ m1 m2).2 r2
  ·obtain ⟨r1, r2⟩ := hr (k - 1) (by omega)
   rw [show k - 1 + 1 = k by omega, e'] at r1 r2
   have hx : g.getD (k - 1) 0 ∈ g := by simp [List.getD, List.getElem?_eq_getElem (show k - 1 < g.length by omega)]
   obtain ⟨m1, m2⟩ := hm _ hx
   unfold nextE at r2
   have r2 := of_decide_eq_true r2
   rw [show i - 1 = g.getD (k - 1) 0 by omega] at r2
   exact (hfr _ m1 m2).1 (by omega)
 match g, hl with
 | [x], _ =>
  have : x = i := (List.mem_singleton.1 b).symm
  rw [this]
theorem free_par {p : Int} {f : Nat → Co} {n i : Nat} (h : accP p f n) (hp : p = 2) (hi : i < n) (ho : (f i).o = true) (hfr : ∀ k, k < n → (f k).o = true → (f k).e ≠ (f i).e - 1 ∧ (f k).e ≠ (f i).e + 1) : ((f i).y - (f i).d) % 2 = 0 := by
 rcases h with h | h | h
 ·exact absurd hp h.2.1
 ·have := lgU_get h.2 hi
  unfold legP at this
  obtain ⟨_, _, _, _, _, _, _, h8⟩ := this
  rw [if_pos ho] at h8
  exact h8.1
 ·have hc := free_one hi ho hfr
  obtain ⟨a, _⟩ := cof_spec (comp_mem.2 ⟨hi, ho⟩)
  have hg := ((grU_all (Nat.le_refl _)).1 h.1.2.2) _ (by rw [List.take_length]; exact a)
  rw [hc] at hg
  have := hg.2
  simpa [gsm, List.getD] using this
end Go.Proofs.YtdieokoenhncfaaGreatDoor
/- The mass of every symbol: the program's and the reference's say the same. (With LT.skipU.) -/
namespace Go.Proofs.YtdieokoenhncfaaGreatDoor
open Go.RowKit Limb Num
def tw (t : Int) : Rat := if 0 ≤ t then ((2 : Int) : Rat) ^ t.toNat else (((2 : Int) : Rat)⁻¹) ^ (-t).toNat
theorem two_ne : ((2 : Int) : Rat) ≠ 0 := by intro h; have := Rat.intCast_eq_zero_iff.1 h; omega
theorem tw_sz {t : Int} (h1 : -64 ≤ t) (h2 : t ≤ 64) : Sz 200 (tw t) := by
 have S2 := sz_z (z := 2) (by omega) (by omega)
 unfold tw
 split
 ·exact (szq_pow S2 _).mono (by omega)
 ·exact (szq_pow (szq_inv S2 (by omega)) _).mono (by omega)
section
variable (En : Ev)
theorem mpow2 (t : Int) (h1 : -64 ≤ t) (h2 : t ≤ 64) : Fn Tryz.prog En 28 [qC ((2 : Int) : Rat), ex (.int .i64 t)] (tupP [qC (tw t), ex (.bool true)]) := by
 have S2 := sz_z (z := 2) (by omega) (by omega)
 unfold tw
 by_cases h : 0 ≤ t
 ·rw [if_pos h]
  have := krpow En ((2 : Int) : Rat) t.toNat (S2.mono (by omega)) (by omega)
  rwa [Int.toNat_of_nonneg h] at this
 ·rw [if_neg h]
  have := krpow_neg En ((2 : Int) : Rat) (-t).toNat (S2.mono (by omega)) (by omega) (by omega) two_ne
  rwa [Int.toNat_of_nonneg (by omega), Int.neg_neg] at this
set_option maxHeartbeats 2000000 in
theorem mMassG (p : Int) (f : Nat → Co) (n : Nat) (H : OkL f n) (hp : 2 ≤ p) (hp2 : p ≤ 9973) (R : Rat) (hb : Bool) (hR : Sz 700 R) (t : Int) (ht1 : -64 ≤ t) (ht2 : t ≤ 64)
  (hX : Fn Tryz.prog En 11 [locP p f n] (tupP [halfP R hb, ex (.int .i64 0)]))
  (hT : Fn Tryz.prog En 13 [locP p f n] (tupP [ex (.int .i64 t), ex (.int .i64 0)]))
  (sd : Int → Nat) (ss : Int → Int) (hd : ∀ e, sd e ≤ 9) (hs : ∀ e, -1 ≤ ss e ∧ ss e ≤ 1)
  (hS : ∀ e, -1 ≤ e → e ≤ 1000 → Fn Tryz.prog En 35 [locP p f n, ex (.int .i64 e)] (aggP [ex (.int .i64 (sd e : Int)), ex (.int .i64 (ss e))])) :
  Fn Tryz.prog En 18 [locP p f n] (tupP [halfP (mpr p sd ss (tw t * R) ((f (n - 1)).e.toNat + 3)) hb, ex (.int .i64 0)]) := by
 have hn1 := H.n1
 have hlt : n - 1 < n := by omega
 have he0 := H.e0 _ hlt
 have he1 := H.e1 _ hlt
 have hq : ((rows (ccs f) n).drop ((n - 1) * 5)).take 5 = coc (f (n - 1)) := rows_get (ccs_len f) hlt
 have wz : IntKind.i64.wrap ((n : Int) - 1) = ((n - 1 : Nat) : Int) := by have := H.n8; rw [w64 (by omega) (by omega)]; omega
 have W2 := mwhole En 2 (by omega) (by omega)
 have C1 := mpow2 En t ht1 ht2
 have C2 := krmul En (tw t) R ((tw_sz ht1 ht2).mono (by omega)) (hR.mono (by omega))
 have hR' : Sz 1000 (tw t * R) := (szq_mul (tw_sz ht1 ht2) hR).mono (by omega)
 generalize tw t = R1 at *
 generalize R1 * R = R0 at *
 obtain ⟨L, hL⟩ : ∃ L : Nat, (f (n - 1)).e = (L : Int) := ⟨(f (n - 1)).e.toNat, by omega⟩
 rw [show coc (f (n - 1)) = [ex (.int .i64 (L : Int)), ex (.int .i64 (f (n - 1)).d), ex (.int .i64 (f (n - 1)).s), ex (.bool (f (n - 1)).o), ex (.int .i64 (f (n - 1)).y)] by unfold coc; rw [hL]] at hq
 rw [hL] at he0 he1 ⊢
 rw [Int.toNat_natCast]
 unfold locP halfP at *
 refine fn_of_body Tryz.func18 rfl Tryz.ntmps18 rfl ?_
 intro w0 h0
 refine js (jr (jB jj jj jj (jA jj jj jj (ja jj (jn (js (jr (jL jj jj jj (jS (ru_call hX ⟨jj, trivial⟩) (jm jj (jx' jj jj (jx' jj jj (jA jj jj jj (jP jj jj jj jj (ja jj (jn (js (js (jr (jm jj (jS (bNf jj jj) (jn (jf jj (jp (js (jr (jL jj jj jj (jS (ru_call hT ⟨jj, trivial⟩) (jm jj (jx' jj jj (jx' jj jj (ja jj (ja jj (jn (js (jr (jS (ru_call W2 ⟨jj, trivial⟩) (jm jj (jS (ru_call C1 ⟨jj, jj, trivial⟩) (jm jj (jx' jj jj (jx' jj jj (jA jj jj jj (jP jj jj jj jj (ja jj (jn ?_))))))))))))))))))))))))))))))))))))))))))))))
 refine js (jr (jL jj jj jj (jF jj jj (jL jj jj jj (jS (ru_call C2 ⟨jj, jj, trivial⟩) (jP jj jj jj jj (jn (js (jr (jF jj jj (jl jj jj jj (jF jj jj (jl jj jj jj (jE jj (jS (bSu jj jj wz) (jS (rc_indexS jj jj hlt hq) (jS (rc_fieldAddr jj jj) (jS (rc_load1 jj jj) (ja jj (jn (js (js (jr (ja jj (jn (jb ?_))))))))))))))))))))))))))
 refine WpD.loop (α := {k : Nat // k ≤ L + 3}) (fun k => ⟨[(1, .ptr 1 0), (2, .ptr 2 0), (4, .ptr 4 0), (8, .ptr 8 0), (10, .one (ex (.int .i64 (L : Int)))), (11, .one (ex (.int .i64 ((k.1 : Int) - 1))))], [(1, [ex (.int .i64 p), slc 5 (rows (ccs f) n) n]), (2, [ex (.bool false), ex (.slice none 0 0), ex (.bool false), ex (.slice none 0 0), ex (.bool false)]), (4, qCells R ++ [ex (.bool hb)]), (8, qCells (mpr p sd ss R0 k.1))]⟩) (fun k => L + 3 - k.1) ⟨0, Nat.zero_le _⟩ ?_ ?_
 ·refine Sub.mk ?_ ?_ <;> repeat (first | exact trivial | refine jv jj ?_ | refine jy jj ?_ | refine jw jj (js0 jj) ?_ | refine ⟨⟨_, jj, PLe.refl _⟩, trivial, ?_⟩)
 rintro ⟨k, hk⟩
 dsimp only at hk ⊢
 have w1 : IntKind.i64.wrap ((L : Int) + 1) = (L : Int) + 1 := w64 (by omega) (by omega)
 by_cases hlk : k < L + 3
 ·have w2 : IntKind.i64.wrap ((k : Int) - 1 + 1) = ((k + 1 : Nat) : Int) - 1 := by rw [w64 (by omega) (by omega)]; omega
  have C3 := hS ((k : Int) - 1) (by omega) (by omega)
  have Sk := mpr_sz hp hp2 hd hs hR' k
  have hd' := hd ((k : Int) - 1)
  have hs' := hs ((k : Int) - 1)
  have hm : mpr p sd ss R0 (k + 1) = if 0 < sd ((k : Int) - 1) then mpr p sd ss R0 k * dia p (sd ((k : Int) - 1)) (ss ((k : Int) - 1)) else mpr p sd ss R0 k := rfl
  generalize sd ((k : Int) - 1) = D at *
  generalize ss ((k : Int) - 1) = S at *
  by_cases h0D : 0 < D
  ·rw [if_pos h0D] at hm
   have C4 := mdiagonal En p S D hp hp2 hs'.1 hs'.2 hd'
   have C5 := krmul En (mpr p sd ss R0 k) (dia p D S) (Sk.mono (by omega)) ((sz_dia hp hp2 hs'.1 hs'.2 hd').mono (by omega))
   rw [← hm] at C5
   refine js (js (jr (jm jj (jm jj (jS (bAd jj jj w1) (jS (bMt jj jj) (jn (jt jj (jp (js (jb (js (jr (jL jj jj jj (jm jj (jS (ru_call C3 ⟨jj, jj, trivial⟩) (jA jj jj jj (jP jj jj jj jj (jn (js (jr (jF jj jj (jl jj jj jj (jS (bGt jj jj) (jn (jt jj (jr (jL jj jj jj (jF jj jj (jl jj jj jj (jL jj jj jj (jS (ru_call C4 ⟨jj, jj, trivial⟩) (jS (ru_call C5 ⟨jj, jj, trivial⟩) (jP jj jj jj jj (jn (jr (jm jj (jS (bAd jj jj w2) (ja jj (jn ?_))))))))))))))))))))))))))))))))))))))))
   refine ⟨⟨k + 1, by omega⟩, ?_, by dsimp only; omega⟩
   refine Sub.mk ?_ ?_ <;> repeat (first | exact trivial | refine jv jj ?_ | refine jy jj ?_ | refine jw jj (js0 jj) ?_ | refine ⟨⟨_, jj, PLe.refl _⟩, trivial, ?_⟩)
  ·rw [if_neg h0D] at hm
   refine js (js (jr (jm jj (jm jj (jS (bAd jj jj w1) (jS (bMt jj jj) (jn (jt jj (jp (js (jb (js (jr (jL jj jj jj (jm jj (jS (ru_call C3 ⟨jj, jj, trivial⟩) (jA jj jj jj (jP jj jj jj jj (jn (js (jr (jF jj jj (jl jj jj jj (jS (bGf jj jj) (jn (jf jj (jp (jr (jm jj (jS (bAd jj jj w2) (ja jj (jn ?_))))))))))))))))))))))))))))))))
   refine ⟨⟨k + 1, by omega⟩, ?_, by dsimp only; omega⟩
   dsimp only
   rw [hm]
   refine Sub.mk ?_ ?_ <;> repeat (first | exact trivial | refine jv jj ?_ | refine jy jj ?_ | refine jw jj (js0 jj) ?_ | refine ⟨⟨_, jj, PLe.refl _⟩, trivial, ?_⟩)
 ·have : k = L + 3 := by omega
  subst this
  refine js (js (jr (jm jj (jm jj (jS (bAd jj jj w1) (jS (bMf jj jj) (jn (jf jj (je (js (jr (jL jj jj jj (jF jj jj (jl jj jj jj (jS (ru_build (ps := [(_, _), (_, _)]) ⟨jj, Part.c jj, jj, Part.c jj, trivial⟩ jj) (jP jj jj jj jj (ja jj (jn (ji ?_)))))))))))))))))))
  exact ret2 rfl (.cell rfl rfl CRow.ok rfl) (.tmp rfl) (PLe.refl _)
end
theorem kin_bd {p : Int} {f : Nat → Co} {n : Nat} (ha : accP p f n) (e : Int) : 0 ≤ (kin p f n e).1 ∧ (kin p f n e).1 ≤ 9 ∧ -1 ≤ (kin p f n e).2 ∧ (kin p f n e).2 ≤ 1 := by
 have H := okA ha
 have hc := ck_spC H.toOkL H.rng e
 unfold kin
 by_cases hp : p = 2
 ·rw [if_pos hp]
  have key : (spC f e n).o = true → 1 ≤ (spC f e n).d ∧ (spB f e n = false → ((spC f e n).y - (spC f e n).d) % 2 = 0) := by
   intro ho
   obtain ⟨i, hi, he, hoi⟩ := (spC_odd H.toOkL).1 ho
   rw [spC_hit he hi fun j h1 h2 => by have := H.up i j h1 h2; omega]
   refine ⟨H.d0 i hi, fun hb => free_par ha hp hi hoi fun k hk hok => ?_⟩
   have hno : ¬ ∃ i, i < n ∧ ((f i).e = e - 1 ∨ (f i).e = e + 1) ∧ (f i).o = true := fun h => by
    have := spB_iff.2 h
    rw [hb] at this
    exact Bool.noConfusion this
   rw [he]
   exact ⟨fun h => hno ⟨k, hk, .inl h, hok⟩, fun h => hno ⟨k, hk, .inr h, hok⟩⟩
  obtain ⟨d0, d8, s1, y0, y7⟩ := hc
  generalize spC f e n = c at *
  generalize spB f e n = b at *
  obtain ⟨ce, d, s, o, y⟩ := c
  dsimp only at *
  unfold dyP
  dsimp only
  cases o with
  | false =>
   rw [if_pos rfl]
   cases b with
   | false => rw [if_pos rfl]; dsimp only; omega
   | true => rw [if_neg (by decide)]; dsimp only; omega
  | true =>
   rw [if_neg (by decide)]
   obtain ⟨k1, k2⟩ := key rfl
   cases b with
   | true =>
    rw [if_pos rfl]
    split <;> (dsimp only; omega)
   | false =>
    have k2 := k2 rfl
    rw [if_neg (by decide)]
    have hv : (if s = -1 then (4 : Int) else 0) = 4 ∨ (if s = -1 then (4 : Int) else 0) = 0 := by split <;> simp
    generalize (if s = -1 then (4 : Int) else 0) = v at *
    split
    ·dsimp only; omega
    ·split
     ·dsimp only; omega
     ·split
      ·dsimp only; omega
      ·split <;> (dsimp only; omega)
 ·rw [if_neg hp]
  obtain ⟨d0, d8, s1, y0, y7⟩ := hc
  dsimp only
  unfold spO
  refine ⟨d0, by omega, ?_⟩
  split
  ·omega
  ·split <;> omega
def mG (p : Int) (f : Nat → Co) (n : Nat) : Rat := mpr p (fun e => (kin p f n e).1.toNat) (fun e => (kin p f n e).2) (tw (tyN p f n) * ((p : Int) : Rat) ^ ((crH f n).toNat / 2)) ((f (n - 1)).e.toNat + 3)
def maG (p : Int) (f : Nat → Co) (n : Nat) : Pd := if accP p f n then (if crH f n ≤ 128 then tupP [halfP (mG p f n) (halfB (crH f n)), ex (.int .i64 0)] else tupP [zero5, ex (.int .i64 7)]) else tupP [zero5, ex (.int .i64 22)]
theorem tyN_bd {p : Int} {f : Nat → Co} {n : Nat} (H : OkL f n) : -64 ≤ tyN p f n ∧ tyN p f n ≤ 64 := by
 have := tyU_bd H (Nat.le_refl n)
 have := H.n8
 unfold tyN
 split <;> omega
theorem cr_sz {p : Int} {h : Int} (h1 : 2 ≤ p) (h2 : p ≤ 9973) (hb : h ≤ 128) : Sz 700 (((p : Int) : Rat) ^ (h.toNat / 2)) := (szq_pow (sz_z (z := p) (by omega) (by omega)) _).mono (by omega)
theorem mG_sz {p : Int} {f : Nat → Co} {n : Nat} (ha : accP p f n) (hb : crH f n ≤ 128) : Sz 134217728 (mG p f n) := by
 have H := okA ha
 have := H.e1 (n - 1) (by have := H.n1; omega)
 have hk := fun e => kin_bd ha e
 obtain ⟨t1, t2⟩ := tyN_bd (p := p) H.toOkL
 exact (mpr_sz H.p2.1 H.p2.2 (fun e => by have := hk e; omega) (fun e => by have := hk e; omega) ((szq_mul (tw_sz t1 t2) (cr_sz H.p2.1 H.p2.2 hb)).mono (by omega)) _).mono (by omega)
theorem massX (En : Ev) (p : Int) (f : Nat → Co) (n : Nat) (c : Int) (hc : c ≠ 0) (hX : Fn Tryz.prog En 11 [locP p f n] (tupP [zero5, ex (.int .i64 c)])) : Fn Tryz.prog En 18 [locP p f n] (tupP [zero5, ex (.int .i64 c)]) := by
 unfold locP zero5 at *
 refine fn_of_body Tryz.func18 rfl Tryz.ntmps18 rfl ?_
 intro w0 h0
 refine js (jr (jB jj jj jj (jA jj jj jj (ja jj (jn (js (jr (jL jj jj jj (jS (ru_call hX ⟨jj, trivial⟩) (jm jj (jx' jj jj (jx' jj jj (jA jj jj jj (jP jj jj jj jj (ja jj (jn (js (js (jr (jm jj (jS (bNt jj jj) (jn (jt jj (js (jr (jS (ru_build (ps := []) trivial jj) (jm jj (jP jj jj jj jj (ja jj (jn (ji ?_)))))))))))))))))))))))))))))))
 exact ret2 rfl (.cell rfl rfl CRow.ok rfl) (.tmp rfl) (PLe.refl _)
theorem tMass (p : Int) (f : Nat → Co) (n : Nat) (hn : n ≤ 20) : Fn Tryz.prog TabD 18 [locP p f n] (maG p f n) := by
 have CX := tCross p f n hn
 have CT := tTypes p f n hn
 unfold crG at CX
 unfold tyT tyA at CT
 unfold maG
 by_cases ha : accP p f n
 ·rw [if_pos ha] at CX CT ⊢
  have H := okA ha
  obtain ⟨t1, t2⟩ := tyN_bd (p := p) H.toOkL
  have hk := fun e => kin_bd ha e
  unfold crA at CX
  by_cases hb : crH f n ≤ 128
  ·rw [if_pos hb] at CX ⊢
   exact mMassG TabD p f n H.toOkL H.p2.1 H.p2.2 _ _ (cr_sz H.p2.1 H.p2.2 hb) _ t1 t2 CX CT (fun e => (kin p f n e).1.toNat) (fun e => (kin p f n e).2) (fun e => by have := hk e; omega) (fun e => by have := hk e; omega) (fun e h1 h2 => by
    have := tspecies p f n e H h1 h2
    rw [Int.toNat_of_nonneg (hk e).1]
    exact this)
  ·rw [if_neg hb] at CX ⊢
   exact massX TabD p f n 7 (by decide) CX
 ·rw [if_neg ha] at CX ⊢
  exact massX TabD p f n 22 (by decide) CX
end Go.Proofs.YtdieokoenhncfaaGreatDoor
/- The sanity check of chapter 31. -/
namespace Go.Proofs.YtdieokoenhncfaaGreatDoor
open Go.RowKit Limb Num
section
variable (En : Ev)
theorem txt_size (l : List Nat) : (txt l).size = l.length := by
 have : ∀ (l : List Nat) (b : ByteArray), ((l.map fun (x : Nat) => (x : Int)).foldl (fun r n => r.push (UInt8.ofNat n.toNat)) b).size = b.size + l.length := by
  intro l
  induction l with
  | nil => intro b; rfl
  | cons x l ih => intro b; simp only [List.map_cons, List.foldl_cons, List.length_cons]; rw [ih, ByteArray.size_push]; omega
 have h := this l ByteArray.empty
 rw [show ByteArray.empty.size = 0 from rfl, Nat.zero_add] at h
 exact h
theorem fmtL_len (z : Int) (k : Nat) : (fmtL z k).length ≤ k + 1 := by
 unfold fmtL
 rw [List.length_reverse, List.length_append, dgts_len]
 split <;> simp
theorem rformat_frac (r : Rat) (k m : Nat) (hr : Sz 1073741824 r) (hd : r.den ≠ 1) (h1 : r.num.natAbs < 10 ^ k) (h2 : k ≤ 9) (h3 : 10 ^ (k - 1) ≤ r.num.natAbs) (h4 : 0 < k) (m1 : r.den < 10 ^ m) (m2 : m ≤ 9) (m3 : 10 ^ (m - 1) ≤ r.den) (m4 : 0 < m) :
  Fn Tryz.prog En 25 [qC r] (ex (.string (txt (fmtL r.num k) ++ ⟨#[47]⟩ ++ txt (fmtL r.den m)))) := by
 have C1 := rcanonical En (RQ.of r) (RQ.of_ok hr)
 have C2 := riswhole En (RQ.of r) (RQ.of_ok hr)
 rw [RQ.of_v] at C1 C2
 rw [show (cmpZ r.den 1 == 0) = false by have := r.den_pos; unfold cmpZ; rw [if_neg (by omega), if_pos (by omega)]; rfl] at C2
 have C3 := iformat En r.num k h1 h2 h3 h4
 have C4 := iformat En (r.den : Int) m m1 m2 m3 m4
 have l1 := fmtL_len r.num k
 have l2 := fmtL_len (r.den : Int) m
 have s1 : (txt (fmtL r.num k)).size + (⟨#[47]⟩ : ByteArray).size ≤ 1000000 := by rw [txt_size]; show _ + 1 ≤ _; omega
 have s2 : (txt (fmtL r.num k) ++ (⟨#[47]⟩ : ByteArray)).size + (txt (fmtL r.den m)).size ≤ 1000000 := by rw [ByteArray.size_append, txt_size, txt_size]; show _ + 1 + _ ≤ _; omega
 refine fn_of_body Tryz.func25 rfl Tryz.ntmps25 rfl ?_
 intro w0 h0
 refine js (jr (jB jj jj jj (ja jj (jn (js (jr (jL jj jj jj (jS (ru_call C1 ⟨jj, trivial⟩) (jA jj jj jj (jP jj jj jj jj (jn (js (js (jr (jL jj jj jj (jS (ru_call C2 ⟨jj, trivial⟩) (jn (jf jj (jp (js (jr (jF jj jj (jL jj jj jj (jS (ru_call C3 ⟨jj, trivial⟩) (jS (rt_bin jj jj (fun w => run_adds w CStr.ok _ _ _ _ s1)) (jF jj jj (jL jj jj jj (jS (ru_call C4 ⟨jj, trivial⟩) (jS (rt_bin jj jj (fun w => run_adds w CStr.ok _ _ _ _ s2)) (ja jj (jn (ji ?_))))))))))))))))))))))))))))))))
 exact ret1 rfl (.tmp rfl) (PLe.refl _)
end
theorem eq_text {a b : ByteArray} (h : a.data = b.data) : (a.toList == b.toList) = true := by
 have : a = b := ByteArray.ext h
 rw [this]; simp
end Go.Proofs.YtdieokoenhncfaaGreatDoor
/- The sanity check of chapter 32, by the mass of every symbol. (With LT.skipU.) -/
namespace Go.Proofs.YtdieokoenhncfaaGreatDoor
open Go.RowKit Limb Num
def syA (d : Int) : Nat → Co := fun _ => ⟨0, d, 1, true, d⟩
theorem symbA (d : Int) : Fn Tryz.prog TabD 23 [ex (.int .i64 d), ex (.int .i64 1), ex (.int .i64 d)] (locP 2 (syA d) 1) := by
 unfold locP
 refine fn_of_body Tryz.func23 rfl Tryz.ntmps23 rfl ?_
 intro w0 h0
 refine js (jr (jA jj jj jj (jn (js (jr (jm jj (jm jj (jm jj (jS (ru_build (ps := [(_, _), (_, _), (_, _), (_, _)]) ⟨jj, Part.c jj, jj, Part.c jj, jj, Part.c jj, jj, Part.c jj, trivial⟩ jj) (jS (rc_buildR (ps := [(_, _)]) ⟨jj, Part.c jj, trivial⟩ jj jj jj) (jS (ru_build (ps := [(_, _), (_, _)]) ⟨jj, Part.c jj, jj, Part.c jj, trivial⟩ jj) (jP jj jj jj jj (jn (ji ?_))))))))))))))
 exact ret1 rfl (.cell rfl rfl CRow.ok rfl) (PLe.refl _)
theorem maA2 : maG 2 (syA 2) 1 = tupP [halfP (mkRat 1 8) false, ex (.int .i64 0)] := by
 unfold maG
 rw [if_pos (by decide +kernel), if_pos (by decide +kernel), show mG 2 (syA 2) 1 = mkRat 1 8 by decide +kernel]
 rfl
theorem maA3 : maG 2 (syA 3) 1 = tupP [halfP (mkRat 1 12) false, ex (.int .i64 0)] := by
 unfold maG
 rw [if_pos (by decide +kernel), if_pos (by decide +kernel), show mG 2 (syA 3) 1 = mkRat 1 12 by decide +kernel]
 rfl
theorem stdA3 : Fn Tryz.prog TabD 24 [ex (.int .i64 3), ex (.int .i64 1), ex (.int .i64 2)] (tupP [qC (mkRat 2 3), ex (.int .i64 0)]) := by
 have C1 := (mallowed 2).tab
 rw [show smP 2 = true by decide +kernel] at C1
 have C2 := mdiagonal TabD 2 0 3 (by omega) (by omega) (by omega) (by omega) (by omega)
 rw [show dia 2 3 0 = mkRat 2 3 by decide +kernel] at C2
 have e : (3 : Int).tmod 2 = 1 := by decide
 refine fn_of_body Tryz.func24 rfl Tryz.ntmps24 rfl ?_
 intro w0 h0
 refine js (jr (jA jj jj jj (ja jj (jn (js (js (jr (jm jj (jS (bLf jj jj) (jm jj (jg (rt_move jj) (jg (bGf jj jj) (jQ jj jj (jm jj (jg (rt_move jj) (jg (bLf jj jj) (jQ jj jj (jm jj (jg (rt_move jj) (jg (bGf jj jj) (jQ jj jj (jn (jf jj (jp (js (js (jr (jm jj (jS (ru_call C1 ⟨jj, trivial⟩) (jS (bNo jj) (jn (jf jj (jp (js (js (jr (jm jj (jS (bRe jj jj e) (jS (bEt jj jj) (jn ?_))))))))))))))))))))))))))))))))))))))))
 refine jt jj (js (jr (jm jj (jm jj (jS (ru_build (ps := [(_, _)]) ⟨jj, Part.c jj, trivial⟩ jj) (jS (ru_call C2 ⟨jj, jj, trivial⟩) (jP jj jj jj jj (ja jj (jn (ji ?_))))))))))
 exact ret2 rfl (.cell rfl rfl CRow.ok rfl) (.tmp rfl) (PLe.refl _)
set_option maxHeartbeats 1000000 in
theorem awake32 : Fn Tryz.prog TabD 9 [] (ex (.bool true)) := by
 have A1 := symbA 2
 have A2 := tMass 2 (syA 2) 1 (by omega)
 rw [maA2] at A2
 have B1 := symbA 3
 have B2 := tMass 2 (syA 3) 1 (by omega)
 rw [maA3] at B2
 have D1 := stdA3
 have F1 := rformat_frac TabD (mkRat 1 8) 1 1 ((sz_two (by decide +kernel)).mono (by omega)) (by decide +kernel) (by decide +kernel) (by omega) (by decide +kernel) (by omega) (by decide +kernel) (by omega) (by decide +kernel) (by omega)
 have F2 := rformat_frac TabD (mkRat 1 12) 1 2 ((sz_two (by decide +kernel)).mono (by omega)) (by decide +kernel) (by decide +kernel) (by omega) (by decide +kernel) (by omega) (by decide +kernel) (by omega) (by decide +kernel) (by omega)
 have F3 := rformat_frac TabD (mkRat 2 3) 1 1 ((sz_two (by decide +kernel)).mono (by omega)) (by decide +kernel) (by decide +kernel) (by omega) (by decide +kernel) (by omega) (by decide +kernel) (by omega) (by decide +kernel) (by omega)
 have t1 : ((txt (fmtL (mkRat 1 8).num 1) ++ (⟨#[47]⟩ : ByteArray) ++ txt (fmtL (mkRat 1 8).den 1)).toList == (⟨#[49, 47, 56]⟩ : ByteArray).toList) = true := eq_text (by rw [ByteArray.data_append, ByteArray.data_append]; decide +kernel)
 have t2 : ((txt (fmtL (mkRat 1 12).num 1) ++ (⟨#[47]⟩ : ByteArray) ++ txt (fmtL (mkRat 1 12).den 2)).toList == (⟨#[49, 47, 49, 50]⟩ : ByteArray).toList) = true := eq_text (by rw [ByteArray.data_append, ByteArray.data_append]; decide +kernel)
 have t3 : ((txt (fmtL (mkRat 2 3).num 1) ++ (⟨#[47]⟩ : ByteArray) ++ txt (fmtL (mkRat 2 3).den 1)).toList == (⟨#[50, 47, 51]⟩ : ByteArray).toList) = true := eq_text (by rw [ByteArray.data_append, ByteArray.data_append]; decide +kernel)
 unfold halfP at A2 B2
 unfold locP at A1 A2 B1 B2
 refine fn_of_body Tryz.func9 rfl Tryz.ntmps9 rfl ?_
 intro w0 h0
 repeat (first | refine js ?_ | refine jb ?_)
 refine jr (ja jj (jn ?_))
 repeat (first | refine js ?_ | refine jb ?_)
 refine jr (jS (ru_call A1 ⟨jj, jj, jj, trivial⟩) (jS (ru_call A2 ⟨jj, trivial⟩) (jm jj (jx' jj jj (jx' jj jj (jA jj jj jj (jP jj jj jj jj (ja jj (jn ?_)))))))))
 repeat (first | refine js ?_ | refine jb ?_)
 refine jr (jS (ru_call B1 ⟨jj, jj, jj, trivial⟩) (jS (ru_call B2 ⟨jj, trivial⟩) (jm jj (jx' jj jj (jx' jj jj (jA jj jj jj (jP jj jj jj jj (ja jj (jn ?_)))))))))
 repeat (first | refine js ?_ | refine jb ?_)
 refine jr (jS (ru_call D1 ⟨jj, jj, jj, trivial⟩) (jm jj (jx' jj jj (jx' jj jj (jA jj jj jj (jP jj jj jj jj (ja jj (jn ?_))))))))
 repeat (first | refine js ?_ | refine jb ?_)
 refine jr (jm jj (jS (rt_bin jj jj (fun w => run_eqi w _ _ _ _ _ _)) (jm jj ?_)))
 first | refine jg (rt_move jj) ?_ | refine jk ?_ | refine ju ?_
 first | refine jg (rt_bin jj jj (fun w => run_eqi w _ _ _ _ _ _)) ?_ | refine jk ?_ | refine ju ?_
 first | refine jq jj jj ?_ | refine jQ jj jj ?_
 refine jm jj ?_
 first | refine jg (rt_move jj) ?_ | refine jk ?_ | refine ju ?_
 first | refine jg (rt_bin jj jj (fun w => run_eqi w _ _ _ _ _ _)) ?_ | refine jk ?_ | refine ju ?_
 first | refine jq jj jj ?_ | refine jQ jj jj ?_
 refine jm jj ?_
 first | refine jg (ru_fieldAddr jj jj) ?_ | refine jk ?_ | refine ju ?_
 first | refine jg (ru_loadR jj jj jj jj) ?_ | refine jk ?_ | refine ju ?_
 first | refine jg (ru_call F1 ⟨jj, trivial⟩) ?_ | refine jk ?_ | refine ju ?_
 first | refine jg (rt_bin_to jj jj (fun w => run_eqs w CStr.ok _ _ _ _) (vbool t1)) ?_ | refine jk ?_ | refine ju ?_
 first | refine jq jj jj ?_ | refine jQ jj jj ?_
 refine jm jj ?_
 first | refine jg (ru_fieldAddr jj jj) ?_ | refine jk ?_ | refine ju ?_
 first | refine jg (ru_loadR jj jj jj jj) ?_ | refine jk ?_ | refine ju ?_
 first | refine jg (ru_call F2 ⟨jj, trivial⟩) ?_ | refine jk ?_ | refine ju ?_
 first | refine jg (rt_bin_to jj jj (fun w => run_eqs w CStr.ok _ _ _ _) (vbool t2)) ?_ | refine jk ?_ | refine ju ?_
 first | refine jq jj jj ?_ | refine jQ jj jj ?_
 refine jm jj ?_
 first | refine jg (ru_loadR jj jj jj jj) ?_ | refine jk ?_ | refine ju ?_
 first | refine jg (ru_call F3 ⟨jj, trivial⟩) ?_ | refine jk ?_ | refine ju ?_
 first | refine jg (rt_bin_to jj jj (fun w => run_eqs w CStr.ok _ _ _ _) (vbool t3)) ?_ | refine jk ?_ | refine ju ?_
 first | refine jq jj jj ?_ | refine jQ jj jj ?_
 refine jm jj ?_
 first | refine jg (ru_fieldAddr jj jj) ?_ | refine jk ?_ | refine ju ?_
 first | refine jg (ru_load1 jj jj jj) ?_ | refine jk ?_ | refine ju ?_
 first | refine jg (bNo jj) ?_ | refine jk ?_ | refine ju ?_
 first | refine jq jj jj ?_ | refine jQ jj jj ?_
 refine ja jj (jn ?_)
 repeat (first | refine js ?_ | refine jb ?_)
 refine WpD.ret ?_
 exact ret1 rfl (.tmp rfl) (PLe.refl _)
end Go.Proofs.YtdieokoenhncfaaGreatDoor

/- Changed symbols: the scene's Bent; the law's some and long. (With LT.skipU.) -/
import Derived.Test.YtdieokoenhncfaaGreatDoorMem
import Derived.Test.YtdieokoenhncfaaGreatDoorSt
import Derived.Test.YtdieokoenhncfaaGreatDoorFu
import Derived.Test.YtdieokoenhncfaaGreatDoorTo
set_option maxRecDepth 3000
namespace Go.Proofs.YtdieokoenhncfaaGreatDoor
open Go.RowKit Limb Num
instance cint_i8 : CInt Tryz.prog 28 .i8 := ⟨Tryz.underlying28⟩
theorem cZg {g : Nat → Co} {n x j : Nat} (h : x < n) (hj : j < 5) (v : Pd) (c : Co) (hc : (coc (g x)).set j v = coc c) : (rows (ccs g) n).set (x * 5 + j) v = rows (ccs (fun i => if i = x then c else g i)) n := by
 obtain ⟨Lo, Hi, h1, h2, h3⟩ := cZf (aZp g) h
 rw [h3 (ccs (fun i => if i = x then c else g i)) (fun t ht => by unfold ccs; dsimp only; rw [if_neg ht]), h2]
 unfold ccs
 dsimp only
 rw [if_pos rfl, List.set_append_right _ _ (by omega), h1, show x * 5 + j - x * 5 = j by omega, List.set_append_left _ _ (by simp [coc]; omega), hc]
theorem cZh {g : Nat → Co} {n x j : Nat} {q : Pd} (h : x < n) (hj : j < 5) (hq : (coc (g x))[j]? = some q) : (rows (ccs g) n)[x * 5 + j]? = some q := by
 have h5 : ((rows (ccs g) n).drop (x * 5)).take 5 = coc (g x) := aZo (aZp g) h
 have h6 : (((rows (ccs g) n).drop (x * 5)).take 5)[j]? = some q := by rw [h5]; exact hq
 rwa [List.getElem?_take_of_lt hj, List.getElem?_drop] at h6
theorem WpD.cut2 {P : Program} {En : Ev} {n : Nat} {w0 : World} {h0 : GH} {c : Cx} {K : Exit → St → Prop} {σ : St} {α : Type} {x y : Code} (J : α → St) (h : WpD P En n w0 h0 c x (kSeq (fun τ => ∃ i, Sub τ (J i)) K) σ) (h2 : ∀ i, WpD P En n w0 h0 c y K (J i)) : WpD P En n w0 h0 c x (kSeq (WpD P En n w0 h0 c y K) K) σ := by
 refine fun Q a w hg hQ => h Q a w hg fun e τ a' w' hk hg' => ?_
 cases e with
 | normal =>
  obtain ⟨i, hi⟩ := hk
  exact hQ .normal (J i) a' w' (h2 i) (hi _ _ _ _ _ _ _ hg')
 | exit i => exact hQ _ τ a' w' hk hg'
 | goto i => exact hQ _ τ a' w' hk hg'
 | ret => exact hQ _ τ a' w' hk hg'
 | panic i => exact hQ _ τ a' w' hk hg'
 | outgrown => exact hQ _ τ a' w' hk hg'
def beC (q v : Int) (c : Co) : Co := if q = 0 then ⟨IntKind.i64.wrap (c.e + IntKind.i64.wrap (v.tmod 3)), c.d, c.s, c.o, c.y⟩ else if q = 1 then ⟨c.e, IntKind.i64.wrap (c.d + IntKind.i64.wrap (v.tmod 3)), c.s, c.o, c.y⟩ else if q = 2 then ⟨c.e, c.d, IntKind.i64.wrap (v.tmod 3), c.o, c.y⟩ else if q = 3 then ⟨c.e, c.d, c.s, !c.o, c.y⟩ else if q = 4 then ⟨c.e, c.d, c.s, c.o, IntKind.i64.wrap (c.y + IntKind.i64.wrap (v.tmod 9))⟩ else if q = 5 then ⟨c.e, c.d, c.s, c.o, IntKind.i64.wrap (c.y + IntKind.i64.wrap (v.tmod 9))⟩ else c
def beP (q v p : Int) : Int := if q = 6 then IntKind.i64.wrap (p + IntKind.i64.wrap (v.tmod 2)) else p
section
variable (En : Ev)
set_option maxHeartbeats 4000000 in
theorem sbent (p : Int) (f : Nat → Co) (n : Nat) (at' fl v : Int) (hn0 : 0 < n) (hn : n ≤ 20) (a1 : 0 ≤ at') (a2 : at' ≤ 255) (b1 : 0 ≤ fl) : ∃ p' g, Fn Tryz.prog En 26 [locP p f n, ex (.int .u8 at'), ex (.int .u8 fl), ex (.int .i8 v)] (locP p' g n) := by
 have hm : n ≤ 1000000000 := by omega
 obtain ⟨x, hx, hxe⟩ : ∃ x : Nat, x < n ∧ at'.tmod (n : Int) = (x : Int) := ⟨(at' % (n : Int)).toNat, by have := Int.emod_lt_of_pos at' (show (0 : Int) < n by omega); have := Int.emod_nonneg at' (show (n : Int) ≠ 0 by omega); omega, by rw [Int.tmod_eq_emod_of_nonneg a1]; have := Int.emod_nonneg at' (show (n : Int) ≠ 0 by omega); omega⟩
 have wa : IntKind.i64.wrap at' = at' := w64 (by omega) (by omega)
 have wf : fl.tmod 8 = fl % 8 := Int.tmod_eq_emod_of_nonneg b1
 have hq : 0 ≤ fl % 8 ∧ fl % 8 < 8 := by omega
 have hnz : ((n : Nat) : Int) ≠ 0 := by omega
 have l1 := fun g : Nat → Co => aZ3 (aZp g) n
 refine ⟨beP (fl % 8) v p, fun i => if i = x then beC (fl % 8) v (f x) else f i, ?_⟩
 unfold locP
 generalize fl % 8 = q at *
 refine aZb Tryz.func26 rfl Tryz.ntmps26 rfl ?_
 intro w0 h0
 refine js (jr (jB jj jj jj (jA jj jj jj (jn (js ?_)))))
 repeat (first | apply js | apply jb)
 refine WpD.regL 7 rfl (Chain.cons (LT.plain rfl (bZv rfl rfl)) (Chain.cons (LT.plain rfl (aZt rfl rfl rfl)) (Chain.cons (LT.plain rfl (bZv rfl rfl)) (Chain.cons (LT.plain rfl (aZt rfl rfl rfl)) (Chain.cons (LT.plain rfl (dZv rfl (fun _ _ h => ⟨none, h⟩) rfl hn0 hm rfl rfl rfl)) (Chain.cons (LT.plain rfl (hZp rfl rfl rfl)) (Chain.cons (LT.plain rfl (dZb rfl rfl rfl)) (Chain.nil _)))))))) (by kernel_rfl) ?_
 refine WpS.openSt (t := 16) (q := 5) rfl rfl hn0 fun blk cap hc => ?_
 refine WpS.N rfl (cZd rfl rfl rfl rfl rfl rfl) rfl ?_
 refine WpS.sub (Sub.mkPl (t := 9) (q := 5) rfl rfl) ?_
 refine WpS.nil ?_
 skip
 repeat (first | apply js | apply jb)
 refine jr (jS (aZS jj jj) (jS (bZj jj jj jj hn0 hc) (jS (cZp jj CSlice.ok) (jS (bEf jj jj) (jn (jf jj (jp (js (jr (jS (aZS jj jj) (jS (bZj jj jj jj hn0 hc) (jm jj (jS (bCv jj wa) (jS (aZS jj jj) (jS (bZj jj jj jj hn0 hc) (jS (cZp jj CSlice.ok) (jS (bRe jj jj hxe) (jS (aZy jj jj hx (o' := x * 5) (by omega)) (ja jj (jn (js (js (jr (jm jj (jS (bRe jj jj wf) (jn ?_))))))))))))))))))))))))))
 refine WpD.cut2 (α := Unit) (fun _ => ⟨[(5, .pin 15 blk), (8, .ptr 8 0), (9, .gen (plB 9 0 15 blk))], [(8, [ex (.int .i64 0), ex (.slice none 0 0)]), (9, [ex (.int .i64 (beP q v p)), ex (gvl blk n cap)]), (15, rows (ccs fun i => if i = x then beC q v (f x) else f i) n)]⟩) ?_ ?_
 ·by_cases h0 : q = 0
  ·have hset := cZg (g := f) (j := 0) hx (by decide) (ex (.int .i64 (IntKind.i64.wrap ((f x).e + IntKind.i64.wrap (v.tmod 3))))) ⟨IntKind.i64.wrap ((f x).e + IntKind.i64.wrap (v.tmod 3)), (f x).d, (f x).s, (f x).o, (f x).y⟩ rfl
   have hsl : x * 5 + 0 < (rows (ccs f) n).length := by rw [l1]; omega
   have hcl := cZh (g := f) (n := n) (x := x) (j := 0) (q := ex (.int .i64 (f x).e)) hx (by decide) rfl
   rw [show beC q v (f x) = ⟨IntKind.i64.wrap ((f x).e + IntKind.i64.wrap (v.tmod 3)), (f x).d, (f x).s, (f x).o, (f x).y⟩ by unfold beC; rw [if_pos h0], show beP q v p = p by unfold beP; rw [if_neg (by omega)]]
   repeat (first | apply js | apply jb)
   refine jr (jS (bEt jj jj) (ja jj (jn (jt jj (jr (jm jj (jS (aZJ jj) (jF jj jj (jS (aZt jj jj hcl) (jm jj (jS (aZu jj jj (fun w => bZn w _ _ _ _ _ _ (by first | decide | omega | assumption))) (jS (cZq jj (fun w => bZx w CInt.ok CInt.ok _ _)) (jS (aZu jj jj (fun w => cZB w _ _ _ _ _ _)) (jS (aZJ jj) (jF jj jj (jO (aZz jj jj jj hsl hset) (jn ?_)))))))))))))))))
   refine ⟨(), ?_⟩
   refine Sub.mk ?_ ?_ <;> repeat (first | exact trivial | refine jV jj ?_ | refine jy jj ?_ | refine jw jj (js0 jj) ?_ | refine jw jj (aZ6 (js0 jj) (js0 jj)) ?_)
  by_cases h1 : q = 1
  ·have hset := cZg (g := f) (j := 1) hx (by decide) (ex (.int .i64 (IntKind.i64.wrap ((f x).d + IntKind.i64.wrap (v.tmod 3))))) ⟨(f x).e, IntKind.i64.wrap ((f x).d + IntKind.i64.wrap (v.tmod 3)), (f x).s, (f x).o, (f x).y⟩ rfl
   have hsl : x * 5 + 1 < (rows (ccs f) n).length := by rw [l1]; omega
   have hcl := cZh (g := f) (n := n) (x := x) (j := 1) (q := ex (.int .i64 (f x).d)) hx (by decide) rfl
   rw [show beC q v (f x) = ⟨(f x).e, IntKind.i64.wrap ((f x).d + IntKind.i64.wrap (v.tmod 3)), (f x).s, (f x).o, (f x).y⟩ by unfold beC; rw [if_neg h0, if_pos h1], show beP q v p = p by unfold beP; rw [if_neg (by omega)]]
   repeat (first | apply js | apply jb)
   refine jr (jS (bEf jj jj) (ja jj (jn (jf jj (js (jr (jS (bEt jj jj) (ja jj (jn (jt jj (jr (jm jj (jS (aZJ jj) (jF jj jj (jS (aZt jj jj hcl) (jm jj (jS (aZu jj jj (fun w => bZn w _ _ _ _ _ _ (by first | decide | omega | assumption))) (jS (cZq jj (fun w => bZx w CInt.ok CInt.ok _ _)) (jS (aZu jj jj (fun w => cZB w _ _ _ _ _ _)) (jS (aZJ jj) (jF jj jj (jO (aZz jj jj jj hsl hset) (jn ?_)))))))))))))))))))))))
   refine ⟨(), ?_⟩
   refine Sub.mk ?_ ?_ <;> repeat (first | exact trivial | refine jV jj ?_ | refine jy jj ?_ | refine jw jj (js0 jj) ?_ | refine jw jj (aZ6 (js0 jj) (js0 jj)) ?_)
  by_cases h2 : q = 2
  ·have hset := cZg (g := f) (j := 2) hx (by decide) (ex (.int .i64 (IntKind.i64.wrap (v.tmod 3)))) ⟨(f x).e, (f x).d, IntKind.i64.wrap (v.tmod 3), (f x).o, (f x).y⟩ rfl
   have hsl : x * 5 + 2 < (rows (ccs f) n).length := by rw [l1]; omega
   rw [show beC q v (f x) = ⟨(f x).e, (f x).d, IntKind.i64.wrap (v.tmod 3), (f x).o, (f x).y⟩ by unfold beC; rw [if_neg h0, if_neg h1, if_pos h2], show beP q v p = p by unfold beP; rw [if_neg (by omega)]]
   repeat (first | apply js | apply jb)
   refine jr (jS (bEf jj jj) (ja jj (jn (jf jj (js (jr (jS (bEf jj jj) (ja jj (jn (jf jj (js (jr (jS (bEt jj jj) (ja jj (jn (jt jj (jr (jm jj (jm jj (jS (aZu jj jj (fun w => bZn w _ _ _ _ _ _ (by first | decide | omega | assumption))) (jS (cZq jj (fun w => bZx w CInt.ok CInt.ok _ _)) (jS (aZJ jj) (jF jj jj (jO (aZz jj jj jj hsl hset) (jn ?_)))))))))))))))))))))))))
   refine ⟨(), ?_⟩
   refine Sub.mk ?_ ?_ <;> repeat (first | exact trivial | refine jV jj ?_ | refine jy jj ?_ | refine jw jj (js0 jj) ?_ | refine jw jj (aZ6 (js0 jj) (js0 jj)) ?_)
  by_cases h3 : q = 3
  ·have hset := cZg (g := f) (j := 3) hx (by decide) (ex (.bool (!(f x).o))) ⟨(f x).e, (f x).d, (f x).s, !(f x).o, (f x).y⟩ rfl
   have hsl : x * 5 + 3 < (rows (ccs f) n).length := by rw [l1]; omega
   have hcl := cZh (g := f) (n := n) (x := x) (j := 3) (q := ex (.bool (f x).o)) hx (by decide) rfl
   rw [show beC q v (f x) = ⟨(f x).e, (f x).d, (f x).s, !(f x).o, (f x).y⟩ by unfold beC; rw [if_neg h0, if_neg h1, if_neg h2, if_pos h3], show beP q v p = p by unfold beP; rw [if_neg (by omega)]]
   repeat (first | apply js | apply jb)
   refine jr (jS (bEf jj jj) (ja jj (jn (jf jj (js (jr (jS (bEf jj jj) (ja jj (jn (jf jj (js (jr (jS (bEf jj jj) (ja jj (jn (jf jj (js (jr (jS (bEt jj jj) (ja jj (jn (jt jj (jr (jm jj (jm jj (jS (aZJ jj) (jF jj jj (jS (aZt jj jj hcl) (jS (bNo jj) (jS (aZJ jj) (jF jj jj (jO (aZz jj jj jj hsl hset) (jn ?_)))))))))))))))))))))))))))))))))
   refine ⟨(), ?_⟩
   refine Sub.mk ?_ ?_ <;> repeat (first | exact trivial | refine jV jj ?_ | refine jy jj ?_ | refine jw jj (js0 jj) ?_ | refine jw jj (aZ6 (js0 jj) (js0 jj)) ?_)
  by_cases h4 : q = 4
  ·have hset := cZg (g := f) (j := 4) hx (by decide) (ex (.int .i64 (IntKind.i64.wrap ((f x).y + IntKind.i64.wrap (v.tmod 9))))) ⟨(f x).e, (f x).d, (f x).s, (f x).o, IntKind.i64.wrap ((f x).y + IntKind.i64.wrap (v.tmod 9))⟩ rfl
   have hsl : x * 5 + 4 < (rows (ccs f) n).length := by rw [l1]; omega
   have hcl := cZh (g := f) (n := n) (x := x) (j := 4) (q := ex (.int .i64 (f x).y)) hx (by decide) rfl
   rw [show beC q v (f x) = ⟨(f x).e, (f x).d, (f x).s, (f x).o, IntKind.i64.wrap ((f x).y + IntKind.i64.wrap (v.tmod 9))⟩ by unfold beC; rw [if_neg h0, if_neg h1, if_neg h2, if_neg h3, if_pos h4], show beP q v p = p by unfold beP; rw [if_neg (by omega)]]
   repeat (first | apply js | apply jb)
   refine jr (jS (bEf jj jj) (ja jj (jn (jf jj (js (jr (jS (bEf jj jj) (ja jj (jn (jf jj (js (jr (jS (bEf jj jj) (ja jj (jn (jf jj (js (jr (jS (bEf jj jj) (ja jj (jn (jf jj (js (js (jr (jS (bEt jj jj) (ja jj (jn (jt jj (jp (jt jj (jr (jm jj (jS (aZJ jj) (jF jj jj (jS (aZt jj jj hcl) (jm jj (jS (aZu jj jj (fun w => bZn w _ _ _ _ _ _ (by first | decide | omega | assumption))) (jS (cZq jj (fun w => bZx w CInt.ok CInt.ok _ _)) (jS (aZu jj jj (fun w => cZB w _ _ _ _ _ _)) (jS (aZJ jj) (jF jj jj (jO (aZz jj jj jj hsl hset) (jn ?_))))))))))))))))))))))))))))))))))))))))))))
   refine ⟨(), ?_⟩
   refine Sub.mk ?_ ?_ <;> repeat (first | exact trivial | refine jV jj ?_ | refine jy jj ?_ | refine jw jj (js0 jj) ?_ | refine jw jj (aZ6 (js0 jj) (js0 jj)) ?_)
  by_cases h5 : q = 5
  ·have hset := cZg (g := f) (j := 4) hx (by decide) (ex (.int .i64 (IntKind.i64.wrap ((f x).y + IntKind.i64.wrap (v.tmod 9))))) ⟨(f x).e, (f x).d, (f x).s, (f x).o, IntKind.i64.wrap ((f x).y + IntKind.i64.wrap (v.tmod 9))⟩ rfl
   have hsl : x * 5 + 4 < (rows (ccs f) n).length := by rw [l1]; omega
   have hcl := cZh (g := f) (n := n) (x := x) (j := 4) (q := ex (.int .i64 (f x).y)) hx (by decide) rfl
   rw [show beC q v (f x) = ⟨(f x).e, (f x).d, (f x).s, (f x).o, IntKind.i64.wrap ((f x).y + IntKind.i64.wrap (v.tmod 9))⟩ by unfold beC; rw [if_neg h0, if_neg h1, if_neg h2, if_neg h3, if_neg h4, if_pos h5], show beP q v p = p by unfold beP; rw [if_neg (by omega)]]
   repeat (first | apply js | apply jb)
   refine jr (jS (bEf jj jj) (ja jj (jn (jf jj (js (jr (jS (bEf jj jj) (ja jj (jn (jf jj (js (jr (jS (bEf jj jj) (ja jj (jn (jf jj (js (jr (jS (bEf jj jj) (ja jj (jn (jf jj (js (js (jr (jS (bEf jj jj) (ja jj (jn (jf jj (jr (jS (bEt jj jj) (ja jj (jn (jt jj (jr (jm jj (jS (aZJ jj) (jF jj jj (jS (aZt jj jj hcl) (jm jj (jS (aZu jj jj (fun w => bZn w _ _ _ _ _ _ (by first | decide | omega | assumption))) (jS (cZq jj (fun w => bZx w CInt.ok CInt.ok _ _)) (jS (aZu jj jj (fun w => cZB w _ _ _ _ _ _)) (jS (aZJ jj) (jF jj jj (jO (aZz jj jj jj hsl hset) (jn ?_)))))))))))))))))))))))))))))))))))))))))))))))
   refine ⟨(), ?_⟩
   refine Sub.mk ?_ ?_ <;> repeat (first | exact trivial | refine jV jj ?_ | refine jy jj ?_ | refine jw jj (js0 jj) ?_ | refine jw jj (aZ6 (js0 jj) (js0 jj)) ?_)
  rw [show beC q v (f x) = f x by unfold beC; rw [if_neg h0, if_neg h1, if_neg h2, if_neg h3, if_neg h4, if_neg h5], show (fun i => if i = x then f x else f i) = f by funext i; split <;> (try subst_vars) <;> rfl]
  by_cases h6 : q = 6
  ·rw [show beP q v p = IntKind.i64.wrap (p + IntKind.i64.wrap (v.tmod 2)) by unfold beP; rw [if_pos h6]]
   repeat (first | apply js | apply jb)
   refine jr (jS (bEf jj jj) (ja jj (jn (jf jj (js (jr (jS (bEf jj jj) (ja jj (jn (jf jj (js (jr (jS (bEf jj jj) (ja jj (jn (jf jj (js (jr (jS (bEf jj jj) (ja jj (jn (jf jj (js (js (jr (jS (bEf jj jj) (ja jj (jn (jf jj (jr (jS (bEf jj jj) (ja jj (jn (jf jj (js (jr (jS (bEt jj jj) (ja jj (jn (jt jj (jr (jS (fZU jj jj) (jl jj jj jj (jm jj (jS (aZu jj jj (fun w => bZn w _ _ _ _ _ _ (by first | decide | omega | assumption))) (jS (cZq jj (fun w => bZx w CInt.ok CInt.ok _ _)) (jS (aZu jj jj (fun w => cZB w _ _ _ _ _ _)) (jS (fZU jj jj) (jO (bZc jj jj jj jj jj) (jn ?_))))))))))))))))))))))))))))))))))))))))))))))))))
   refine ⟨(), ?_⟩
   refine Sub.mk ?_ ?_ <;> repeat (first | exact trivial | refine jV jj ?_ | refine jy jj ?_ | refine jw jj (js0 jj) ?_ | refine jw jj (aZ6 (js0 jj) (js0 jj)) ?_)
  ·rw [show beP q v p = p by unfold beP; rw [if_neg h6]]
   repeat (first | apply js | apply jb)
   refine jr (jS (bEf jj jj) (ja jj (jn (jf jj (js (jr (jS (bEf jj jj) (ja jj (jn (jf jj (js (jr (jS (bEf jj jj) (ja jj (jn (jf jj (js (jr (jS (bEf jj jj) (ja jj (jn (jf jj (js (js (jr (jS (bEf jj jj) (ja jj (jn (jf jj (jr (jS (bEf jj jj) (ja jj (jn (jf jj (js (jr (jS (bEf jj jj) (ja jj (jn (jf jj (jp ?_)))))))))))))))))))))))))))))))))))))))))
   refine ⟨(), ?_⟩
   refine Sub.mk ?_ ?_ <;> repeat (first | exact trivial | refine jV jj ?_ | refine jy jj ?_ | refine jw jj (js0 jj) ?_ | refine jw jj (aZ6 (js0 jj) (js0 jj)) ?_)
 intro _
 generalize beP q v p = p' at *
 generalize (fun i => if i = x then beC q v (f x) else f i) = g at *
 refine WpD.sub (Sub.unPl (t := 9) rfl) ?_
 refine WpD.sub (τ := ⟨[(8, .ptr 8 0), (9, .ptr 9 0)], [(9, [ex (.int .i64 p'), slc 5 (rows (ccs g) n) n]), (8, [ex (.int .i64 0), ex (.slice none 0 0)])]⟩) ?_ ?_
 ·exact Sub.trans (Sub.pubCell (bx0 := [(9, [ex (.int .i64 p'), ex (gvl blk n cap)]), (8, [ex (.int .i64 0), ex (.slice none 0 0)])]) (sl := [(8, .ptr 8 0), (9, .ptr 9 0)]) (b := 15) (d := 9) (p := 5) (k := 5) rfl rfl (aZ3 (aZp _) n) rfl rfl hn0 hc.1 hc.2 ⟨.inl ⟨_, rfl, PsLe.refl _⟩, .inl ⟨_, rfl, PsLe.refl _⟩, trivial⟩ rfl ⟨⟨_, rfl, rfl⟩, Option.some_ne_none _, ⟨_, rfl, rfl⟩, Option.some_ne_none _, trivial⟩) (Sub.mk (by repeat (first | exact trivial | refine jv rfl ?_ | refine jw rfl (js0 rfl) ?_)) (by repeat (first | exact trivial | refine jz ?_ | refine jy rfl ?_)))
 repeat (first | apply js | apply jb)
 refine jr (jL jj jj jj (jP jj jj jj jj (jn ?_)))
 repeat (first | apply js | apply jb)
 refine WpD.ret ?_
 exact rtC rfl jj jj
theorem lsome (p : Int) (f : Nat → Co) (n : Nat) (hn : n ≤ 20) (pk : Int) (x : Nat → By) (m : Nat) (hm : m ≤ 20) (k1 : 0 ≤ pk) (k2 : pk ≤ 255) (at' fl v : Int) (a1 : 0 ≤ at') (a2 : at' ≤ 255) (b1 : 0 ≤ fl) (made : Bool) : ∃ p' g n', n' ≤ 20 ∧ Fn Tryz.prog En 10 [locP p f n, aggP [ex (.int .u8 pk), slc 5 (rows (bys x) m) m], ex (.int .u8 at'), ex (.int .u8 fl), ex (.int .i8 v), ex (.bool made)] (locP p' g n') := by
 cases made with
 | false =>
  refine ⟨p, f, n, hn, ?_⟩
  unfold locP
  refine aZb Tryz.func10 rfl Tryz.ntmps10 rfl ?_
  intro w0 h0
  refine js (jr (jB jj jj jj (jB jj jj jj (jA jj jj jj (jn (js (js (jr (jm jj (jn (jf jj (jp (js (jr (jL jj jj jj (jP jj jj jj jj (jn (ji ?_))))))))))))))))))
  exact rtC rfl jj jj
 | true =>
  have h1 := (kZQ x m).n1
  have h8 := (kZQ x m).n8
  have C1 := sany En pk x m hm k1 k2
  obtain ⟨p', g, C2⟩ := sbent En (anP pk) (anF pk x m) (scN x m) at' fl v (by omega) (by omega) a1 a2 b1
  refine ⟨p', g, scN x m, by omega, ?_⟩
  unfold locP at *
  refine aZb Tryz.func10 rfl Tryz.ntmps10 rfl ?_
  intro w0 h0
  refine js (jr (jB jj jj jj (jB jj jj jj (jA jj jj jj (jn (js (js (jr (jm jj (jn (jt jj (js (jr (jL jj jj jj (jS (aZa C1 ⟨jj, jj, trivial⟩) (jm jj (jm jj (jm jj (jS (aZa C2 ⟨jj, jj, jj, jj, trivial⟩) (jP jj jj jj jj (jn (ji ?_))))))))))))))))))))))
  exact rtC rfl jj jj
theorem llong (p : Int) (f : Nat → Co) (n : Nat) : Fn Tryz.prog En 8 [locP p f n] (ex (.bool (decide ((n : Int) > 20)))) := by
 unfold locP
 refine aZb Tryz.func8 rfl Tryz.ntmps8 rfl ?_
 intro w0 h0
 refine js (jr (jB jj jj jj (ja jj (jn (js (jr (jF jj jj (jl jj jj jj (jE jj (jS (aZu jj jj (fun w => aZM w _ _ _ _ _ _)) (ja jj (jn (ji ?_)))))))))))))
 exact rtT rfl jj
end
end Go.Proofs.YtdieokoenhncfaaGreatDoor
/- Canonical symbols (the reference's IsCanonical); which symbols are accepted: the program's and the reference's say the same. (With LT.skipU.) -/
namespace Go.Proofs.YtdieokoenhncfaaGreatDoor
open Go.RowKit Limb Num
instance cbody30 : CBody Tryz.prog 30 := ⟨⟨_, Tryz.func30, rfl, by rfl⟩⟩
def cfB (f : Nat → Co) (n : Nat) : Bool := decide (FEs f (comp f n))
theorem kZx {f : Nat → Co} {n : Nat} : cfB f n = true ↔ FEs f (comp f n) := by unfold cfB; exact decide_eq_true_iff
def canP (p : Int) (f : Nat → Co) (n : Nat) : Prop := fusP p f n ∧ fiP f (chn f n) ∧ cfB f n = true
instance (p : Int) (f : Nat → Co) (n : Nat) : Decidable (canP p f n) := by unfold canP; infer_instance
def accP (p : Int) (f : Nat → Co) (n : Nat) : Prop := oddP p f n ∨ rawP p f n ∨ canP p f n
instance (p : Int) (f : Nat → Co) (n : Nat) : Decidable (accP p f n) := by unfold accP; infer_instance
section
variable (En : Ev)
theorem tiscanP (p : Int) (f : Nat → Co) (n : Nat) (hn : n ≤ 20) : Fn Tryz.prog En 53 [locP p f n] (ex (.bool (decide (canP p f n)))) :=
 tiscan En p f n hn (cfB f n) anyC anyC fun h => trefine En p f n hn h (cfB f n) kZx
set_option maxHeartbeats 1000000 in
theorem riscan (p : Int) (f : Nat → Co) (n : Nat) (hn : n ≤ 20) : Fn Tryz.prog En 62 [locP p f n] (ex (.bool (decide (canP p f n)))) := by
 have C0 := mZ2 En p f n hn
 by_cases hfu : fusP p f n
 ·rw [decide_eq_true hfu] at C0
  have hsU := hfu.1.2.2
  have H : Shp f n := ⟨hn, fun k hk => (aZD hsU hk).1, fun k hk => (aZD hsU hk).2.1⟩
  have hy : ∀ i, i < n → 0 ≤ (f i).y ∧ (f i).y ≤ 7 := fun i hi => ⟨(bZ7 hfu.2.1 hi).2.1, (bZ7 hfu.2.1 hi).2.2.1⟩
  have C1 := rfirst En p f n H hy
  by_cases hfi : fiP f (chn f n)
  ·rw [decide_eq_true hfi] at C1
   have C2 := kZX En p f n hn hfu (cfB f n) kZx
   have e : decide (canP p f n) = cfB f n := by
    rw [Bool.eq_iff_iff, decide_eq_true_iff]
    exact ⟨fun h => h.2.2, fun h => ⟨hfu, hfi, h⟩⟩
   rw [e]
   generalize cfB f n = r at *
   unfold locP at *
   refine aZb Tryz.func62 rfl Tryz.ntmps62 rfl ?_
   intro w0 h0
   refine js (jr (jB jj jj jj (ja jj (jn (js (js (jr (jL jj jj jj (jS (aZa C0 ⟨jj, trivial⟩) (jS (bNo jj) (jm jj (jg (aZ2 jj jj jj jj) (jg (aZa C1 ⟨jj, trivial⟩) (jg (bNo jj) (jQ jj jj (jn (jf jj (jp (js (jr (jL jj jj jj (jS (aZa C2 ⟨jj, trivial⟩) (jm jj (jx' jj jj (jx' jj jj (jA jj jj jj (jP jj jj jj jj (ja jj (jn (js (jr (jm jj (ja jj (jn (ji ?_)))))))))))))))))))))))))))))))))))
   exact rtT rfl jj
  ·rw [decide_eq_false hfi] at C1
   rw [decide_eq_false (fun h : canP p f n => hfi h.2.1)]
   unfold locP at *
   refine aZb Tryz.func62 rfl Tryz.ntmps62 rfl ?_
   intro w0 h0
   refine js (jr (jB jj jj jj (ja jj (jn (js (js (jr (jL jj jj jj (jS (aZa C0 ⟨jj, trivial⟩) (jS (bNo jj) (jm jj (jg (aZ2 jj jj jj jj) (jg (aZa C1 ⟨jj, trivial⟩) (jg (bNo jj) (jQ jj jj (jn (jt jj (js (jr (ja jj (jn (ji ?_))))))))))))))))))))))
   exact rtT rfl jj
 ·rw [decide_eq_false hfu] at C0
  rw [decide_eq_false (fun h : canP p f n => hfu h.1)]
  unfold locP at *
  refine aZb Tryz.func62 rfl Tryz.ntmps62 rfl ?_
  intro w0 h0
  refine js (jr (jB jj jj jj (ja jj (jn (js (js (jr (jL jj jj jj (jS (aZa C0 ⟨jj, trivial⟩) (jS (bNo jj) (jm jj (jk (jk (jk (jq jj jj (jn (jt jj (js (jr (ja jj (jn (ji ?_))))))))))))))))))))))
  exact rtT rfl jj
theorem jZp (p : Int) (f : Nat → Co) (n : Nat) (hn : n ≤ 20) : Fn Tryz.prog En 30 [locP p f n] (ex (.bool (decide (accP p f n)))) := by
 have C0 := rvalidG En p f n (by omega)
 have C1 := jZb En p f n (by omega)
 have C2 := riscan En p f n hn
 by_cases h0 : oddP p f n
 ·rw [decide_eq_true h0] at C0
  rw [decide_eq_true (show accP p f n from .inl h0)]
  unfold locP at *
  refine aZb Tryz.func30 rfl Tryz.ntmps30 rfl ?_
  intro w0 h0
  refine js (jr (jB jj jj jj (ja jj (jn (js (jr (jL jj jj jj (jS (aZa C0 ⟨jj, trivial⟩) (jm jj (jk (jk (jq jj jj (jm jj (jk (jk (jq jj jj (ja jj (jn (ji ?_)))))))))))))))))))
  exact rtT rfl jj
 ·rw [decide_eq_false h0] at C0
  by_cases h1 : rawP p f n
  ·rw [decide_eq_true h1] at C1
   rw [decide_eq_true (show accP p f n from .inr (.inl h1))]
   unfold locP at *
   refine aZb Tryz.func30 rfl Tryz.ntmps30 rfl ?_
   intro w0 h0
   refine js (jr (jB jj jj jj (ja jj (jn (js (jr (jL jj jj jj (jS (aZa C0 ⟨jj, trivial⟩) (jm jj (jg (aZ2 jj jj jj jj) (jg (aZa C1 ⟨jj, trivial⟩) (jQ jj jj (jm jj (jk (jk (jq jj jj (ja jj (jn (ji ?_)))))))))))))))))))
   exact rtT rfl jj
  ·rw [decide_eq_false h1] at C1
   have e : decide (accP p f n) = decide (canP p f n) := decide_eq_decide.2 ⟨fun h => (h.resolve_left h0).resolve_left h1, fun h => .inr (.inr h)⟩
   rw [e]
   generalize decide (canP p f n) = r at *
   unfold locP at *
   refine aZb Tryz.func30 rfl Tryz.ntmps30 rfl ?_
   intro w0 h0
   refine js (jr (jB jj jj jj (ja jj (jn (js (jr (jL jj jj jj (jS (aZa C0 ⟨jj, trivial⟩) (jm jj (jg (aZ2 jj jj jj jj) (jg (aZa C1 ⟨jj, trivial⟩) (jQ jj jj (jm jj (jg (aZ2 jj jj jj jj) (jg (aZa C2 ⟨jj, trivial⟩) (jQ jj jj (ja jj (jn (ji ?_)))))))))))))))))))
   exact rtT rfl jj
end
theorem iZR (p : Int) (f : Nat → Co) (n : Nat) (hn : n ≤ 20) : Fn Tryz.prog TabD 27 [locP p f n] (ex (.bool (decide (accP p f n)))) := by
 have C0 := tvalid TabD p f n (by omega)
 have C1 := tiscanP TabD p f n hn
 have C2 := svalidG p f n (by omega)
 by_cases hp : p = 2
 ·have ho : ¬ oddP p f n := fun h => h.2.1 hp
  by_cases h1 : rawP p f n
  ·rw [decide_eq_true h1] at C0
   rw [decide_eq_true (show accP p f n from .inr (.inl h1))]
   unfold locP at *
   refine aZb Tryz.func27 rfl Tryz.ntmps27 rfl ?_
   intro w0 h0
   refine js (jr (jB jj jj jj (ja jj (jn (js (js (jr (jF jj jj (jl jj jj jj (jS (bEt jj jj) (jn (jt jj (js (jr (jL jj jj jj (jS (aZa C0 ⟨jj, trivial⟩) (jm jj (jk (jk (jq jj jj (ja jj (jn (ji ?_)))))))))))))))))))))))
   exact rtT rfl jj
  ·rw [decide_eq_false h1] at C0
   have e : decide (accP p f n) = decide (canP p f n) := decide_eq_decide.2 ⟨fun h => (h.resolve_left ho).resolve_left h1, fun h => .inr (.inr h)⟩
   rw [e]
   generalize decide (canP p f n) = r at *
   unfold locP at *
   refine aZb Tryz.func27 rfl Tryz.ntmps27 rfl ?_
   intro w0 h0
   refine js (jr (jB jj jj jj (ja jj (jn (js (js (jr (jF jj jj (jl jj jj jj (jS (bEt jj jj) (jn (jt jj (js (jr (jL jj jj jj (jS (aZa C0 ⟨jj, trivial⟩) (jm jj (jg (aZ2 jj jj jj jj) (jg (aZa C1 ⟨jj, trivial⟩) (jQ jj jj (ja jj (jn (ji ?_)))))))))))))))))))))))
   exact rtT rfl jj
 ·have e : decide (accP p f n) = decide (oddP p f n) := decide_eq_decide.2 ⟨fun h => h.elim id fun h => h.elim (fun h => absurd h.1.1 hp) (fun h => absurd h.1.1.1 hp), .inl⟩
  rw [e]
  generalize decide (oddP p f n) = r at *
  unfold locP at *
  refine aZb Tryz.func27 rfl Tryz.ntmps27 rfl ?_
  intro w0 h0
  refine js (jr (jB jj jj jj (ja jj (jn (js (js (jr (jF jj jj (jl jj jj jj (jS (bEf jj jj) (jn (jf jj (jp (js (jr (jL jj jj jj (jS (aZa C2 ⟨jj, trivial⟩) (ja jj (jn (ji ?_))))))))))))))))))))
  exact rtT rfl jj
end Go.Proofs.YtdieokoenhncfaaGreatDoor

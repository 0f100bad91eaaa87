/- Changed symbols: the scene's Bent; the law's some and long. (With LT.skipU.) -/
import Derived.Test.YtdieokoenhncfaaGreatDoorZa
import Derived.Test.YtdieokoenhncfaaGreatDoorSt
set_option maxRecDepth 3000
namespace Go.Proofs.YtdieokoenhncfaaGreatDoor
open Go.RowKit Limb Num
instance cint_i8 : CInt Tryz.prog 28 .i8 := ⟨Tryz.underlying28⟩
theorem rows_setG {g : Nat → Co} {n x j : Nat} (h : x < n) (hj : j < 5) (v : Pd) (c : Co) (hc : (coc (g x)).set j v = coc c) : (rows (ccs g) n).set (x * 5 + j) v = rows (ccs (fun i => if i = x then c else g i)) n := by
 obtain ⟨Lo, Hi, h1, h2, h3⟩ := rows_split (ccs_len g) h
 rw [h3 (ccs (fun i => if i = x then c else g i)) (fun t ht => by unfold ccs; dsimp only; rw [if_neg ht]), h2]
 unfold ccs
 dsimp only
 rw [if_pos rfl, List.set_append_right _ _ (by omega), h1, show x * 5 + j - x * 5 = j by omega, List.set_append_left _ _ (by simp [coc]; omega), hc]
theorem rows_cellG {g : Nat → Co} {n x j : Nat} {q : Pd} (h : x < n) (hj : j < 5) (hq : (coc (g x))[j]? = some q) : (rows (ccs g) n)[x * 5 + j]? = some q := by
 have h5 : ((rows (ccs g) n).drop (x * 5)).take 5 = coc (g x) := rows_get (ccs_len g) h
 have h6 : (((rows (ccs g) n).drop (x * 5)).take 5)[j]? = some q := by rw [h5]; exact hq
 rwa [List.getElem?_take_of_lt hj, List.getElem?_drop] at h6
section
variable (En : Ev)
set_option maxHeartbeats 2000000 in
theorem sbent0 (p : Int) (f : Nat → Co) (n : Nat) (at' fl v : Int) (hn0 : 0 < n) (hn : n ≤ 20) (a1 : 0 ≤ at') (a2 : at' ≤ 255) (b1 : 0 ≤ fl) (hk : fl % 8 = 0) : ∃ p' g, Fn Tryz.prog En 26 [locP p f n, ex (.int .u8 at'), ex (.int .u8 fl), ex (.int .i8 v)] (locP p' g n) := by
 have hm : n ≤ 1000000000 := by omega
 obtain ⟨x, hx, hxe⟩ : ∃ x : Nat, x < n ∧ at'.tmod (n : Int) = (x : Int) := ⟨(at' % (n : Int)).toNat, by have := Int.emod_lt_of_pos at' (show (0 : Int) < n by omega); have := Int.emod_nonneg at' (show (n : Int) ≠ 0 by omega); omega, by rw [Int.tmod_eq_emod_of_nonneg a1]; have := Int.emod_nonneg at' (show (n : Int) ≠ 0 by omega); omega⟩
 have wa : IntKind.i64.wrap at' = at' := w64 (by omega) (by omega)
 have wf : fl.tmod 8 = fl % 8 := Int.tmod_eq_emod_of_nonneg b1
 have hnz : ((n : Nat) : Int) ≠ 0 := by omega
 have l1 := fun g : Nat → Co => rows_len (ccs_len g) n
 have hset := rows_setG (g := f) (j := 0) hx (by decide) (ex (.int .i64 (IntKind.i64.wrap ((f x).e + IntKind.i64.wrap (v.tmod 3))))) ⟨IntKind.i64.wrap ((f x).e + IntKind.i64.wrap (v.tmod 3)), (f x).d, (f x).s, (f x).o, (f x).y⟩ rfl
 have hsl : x * 5 + 0 < (rows (ccs f) n).length := by rw [l1]; omega
 have hcl := rows_cellG (g := f) (n := n) (x := x) (j := 0) (q := ex (.int .i64 (f x).e)) hx (by decide) rfl
 refine ⟨p, fun i => if i = x then ⟨IntKind.i64.wrap ((f x).e + IntKind.i64.wrap (v.tmod 3)), (f x).d, (f x).s, (f x).o, (f x).y⟩ else f i, ?_⟩
 unfold locP
 generalize fl % 8 = q at *
 refine fn_of_body Tryz.func26 rfl Tryz.ntmps26 rfl ?_
 intro w0 h0
 refine js (jr (jB jj jj jj (jA jj jj jj (jn (js ?_)))))
 repeat (first | refine js ?_ | refine jb ?_)
 refine WpD.regL 7 rfl (Chain.cons (LT.plain rfl (ru_fieldAddr rfl rfl)) (Chain.cons (LT.plain rfl (ru_load1 rfl rfl rfl)) (Chain.cons (LT.plain rfl (ru_fieldAddr rfl rfl)) (Chain.cons (LT.plain rfl (ru_load1 rfl rfl rfl)) (Chain.cons (LT.plain rfl (ru_appendE rfl (fun _ _ h => ⟨none, h⟩) rfl hn0 hm rfl rfl rfl)) (Chain.cons (LT.plain rfl (rl_build rfl rfl rfl)) (Chain.cons (LT.plain rfl (ru_alloc rfl rfl rfl)) (Chain.nil _)))))))) (by kernel_rfl) ?_
 refine WpS.openSt (t := 16) (q := 5) rfl rfl hn0 fun blk cap hc => ?_
 refine WpS.N rfl (ru_storeR rfl rfl rfl rfl rfl rfl) rfl ?_
 refine WpS.sub (Sub.mkPl (t := 9) (q := 5) rfl rfl) ?_
 refine WpS.nil ?_
 skip
 repeat (first | refine js ?_ | refine jb ?_)
 refine jr (jS (rl_field jj jj) (jS (rl_load jj jj jj hn0 hc) (jS (ru_lenO jj CSlice.ok) (jS (bEf jj jj) (jn (jf jj (jp (js (jr (jS (rl_field jj jj) (jS (rl_load jj jj jj hn0 hc) (jm jj (jS (bCv jj wa) (jS (rl_field jj jj) (jS (rl_load jj jj jj hn0 hc) (jS (ru_lenO jj CSlice.ok) (jS (bRe jj jj hxe) (jS (ru_indexR jj jj hx (o' := x * 5) (by omega)) (ja jj (jn (js (js (jr (jm jj (jS (bRe jj jj wf) (jn (jb (js (jr (jS (bEt jj jj) (ja jj (jn (jt jj (jr (jm jj (jS (ru_nilCheck jj) (jF jj jj (jS (ru_load1 jj jj hcl) (jm jj (jS (rt_bin jj jj (fun w => run_remi w _ _ _ _ _ _ (by first | decide | omega | assumption))) (jS (rt_conv jj (fun w => run_convi w CInt.ok CInt.ok _ _)) (jS (rt_bin jj jj (fun w => run_addi w _ _ _ _ _ _)) (jS (ru_nilCheck jj) (jF jj jj (jO (ru_set1 jj jj jj hsl hset) (jn ?_))))))))))))))))))))))))))))))))))))))))))))))
 refine WpD.sub (Sub.unPl (t := 9) rfl) ?_
 refine WpD.sub (τ := ⟨[(8, .ptr 8 0), (9, .ptr 9 0)], [(9, [ex (.int .i64 (p)), slc 5 (rows (ccs (fun i => if i = x then ⟨IntKind.i64.wrap ((f x).e + IntKind.i64.wrap (v.tmod 3)), (f x).d, (f x).s, (f x).o, (f x).y⟩ else f i)) n) n]), (8, [ex (.int .i64 0), ex (.slice none 0 0)])]⟩) ?_ ?_
 ·exact Sub.trans (Sub.pubCell (bx0 := [(9, [ex (.int .i64 (p)), ex (gvl blk n cap)]), (8, [ex (.int .i64 0), ex (.slice none 0 0)])]) (sl := [(8, .ptr 8 0), (9, .ptr 9 0)]) (b := 15) (d := 9) (p := 5) (k := 5) rfl rfl (rows_len (ccs_len _) n) rfl rfl hn0 hc.1 hc.2 ⟨.inl ⟨_, rfl, PsLe.refl _⟩, .inl ⟨_, rfl, PsLe.refl _⟩, trivial⟩ rfl ⟨⟨_, rfl, rfl⟩, Option.some_ne_none _, ⟨_, rfl, rfl⟩, Option.some_ne_none _, trivial⟩) (Sub.mk (by repeat (first | exact trivial | refine jv rfl ?_ | refine jw rfl (js0 rfl) ?_)) (by repeat (first | exact trivial | refine jz ?_ | refine jy rfl ?_)))
 repeat (first | refine js ?_ | refine jb ?_)
 refine jr (jL jj jj jj (jP jj jj jj jj (jn (ji ?_))))
 exact ret1 rfl (.cell rfl rfl CRow.ok rfl) (PLe.refl _)
set_option maxHeartbeats 2000000 in
theorem sbent1 (p : Int) (f : Nat → Co) (n : Nat) (at' fl v : Int) (hn0 : 0 < n) (hn : n ≤ 20) (a1 : 0 ≤ at') (a2 : at' ≤ 255) (b1 : 0 ≤ fl) (hk : fl % 8 = 1) : ∃ p' g, Fn Tryz.prog En 26 [locP p f n, ex (.int .u8 at'), ex (.int .u8 fl), ex (.int .i8 v)] (locP p' g n) := by
 have hm : n ≤ 1000000000 := by omega
 obtain ⟨x, hx, hxe⟩ : ∃ x : Nat, x < n ∧ at'.tmod (n : Int) = (x : Int) := ⟨(at' % (n : Int)).toNat, by have := Int.emod_lt_of_pos at' (show (0 : Int) < n by omega); have := Int.emod_nonneg at' (show (n : Int) ≠ 0 by omega); omega, by rw [Int.tmod_eq_emod_of_nonneg a1]; have := Int.emod_nonneg at' (show (n : Int) ≠ 0 by omega); omega⟩
 have wa : IntKind.i64.wrap at' = at' := w64 (by omega) (by omega)
 have wf : fl.tmod 8 = fl % 8 := Int.tmod_eq_emod_of_nonneg b1
 have hnz : ((n : Nat) : Int) ≠ 0 := by omega
 have l1 := fun g : Nat → Co => rows_len (ccs_len g) n
 have hset := rows_setG (g := f) (j := 1) hx (by decide) (ex (.int .i64 (IntKind.i64.wrap ((f x).d + IntKind.i64.wrap (v.tmod 3))))) ⟨(f x).e, IntKind.i64.wrap ((f x).d + IntKind.i64.wrap (v.tmod 3)), (f x).s, (f x).o, (f x).y⟩ rfl
 have hsl : x * 5 + 1 < (rows (ccs f) n).length := by rw [l1]; omega
 have hcl := rows_cellG (g := f) (n := n) (x := x) (j := 1) (q := ex (.int .i64 (f x).d)) hx (by decide) rfl
 refine ⟨p, fun i => if i = x then ⟨(f x).e, IntKind.i64.wrap ((f x).d + IntKind.i64.wrap (v.tmod 3)), (f x).s, (f x).o, (f x).y⟩ else f i, ?_⟩
 unfold locP
 generalize fl % 8 = q at *
 refine fn_of_body Tryz.func26 rfl Tryz.ntmps26 rfl ?_
 intro w0 h0
 refine js (jr (jB jj jj jj (jA jj jj jj (jn (js ?_)))))
 repeat (first | refine js ?_ | refine jb ?_)
 refine WpD.regL 7 rfl (Chain.cons (LT.plain rfl (ru_fieldAddr rfl rfl)) (Chain.cons (LT.plain rfl (ru_load1 rfl rfl rfl)) (Chain.cons (LT.plain rfl (ru_fieldAddr rfl rfl)) (Chain.cons (LT.plain rfl (ru_load1 rfl rfl rfl)) (Chain.cons (LT.plain rfl (ru_appendE rfl (fun _ _ h => ⟨none, h⟩) rfl hn0 hm rfl rfl rfl)) (Chain.cons (LT.plain rfl (rl_build rfl rfl rfl)) (Chain.cons (LT.plain rfl (ru_alloc rfl rfl rfl)) (Chain.nil _)))))))) (by kernel_rfl) ?_
 refine WpS.openSt (t := 16) (q := 5) rfl rfl hn0 fun blk cap hc => ?_
 refine WpS.N rfl (ru_storeR rfl rfl rfl rfl rfl rfl) rfl ?_
 refine WpS.sub (Sub.mkPl (t := 9) (q := 5) rfl rfl) ?_
 refine WpS.nil ?_
 skip
 repeat (first | refine js ?_ | refine jb ?_)
 refine jr (jS (rl_field jj jj) (jS (rl_load jj jj jj hn0 hc) (jS (ru_lenO jj CSlice.ok) (jS (bEf jj jj) (jn (jf jj (jp (js (jr (jS (rl_field jj jj) (jS (rl_load jj jj jj hn0 hc) (jm jj (jS (bCv jj wa) (jS (rl_field jj jj) (jS (rl_load jj jj jj hn0 hc) (jS (ru_lenO jj CSlice.ok) (jS (bRe jj jj hxe) (jS (ru_indexR jj jj hx (o' := x * 5) (by omega)) (ja jj (jn (js (js (jr (jm jj (jS (bRe jj jj wf) (jn (jb (js (jr (jS (bEf jj jj) (ja jj (jn (jf jj (js (jr (jS (bEt jj jj) (ja jj (jn (jt jj (jr (jm jj (jS (ru_nilCheck jj) (jF jj jj (jS (ru_load1 jj jj hcl) (jm jj (jS (rt_bin jj jj (fun w => run_remi w _ _ _ _ _ _ (by first | decide | omega | assumption))) (jS (rt_conv jj (fun w => run_convi w CInt.ok CInt.ok _ _)) (jS (rt_bin jj jj (fun w => run_addi w _ _ _ _ _ _)) (jS (ru_nilCheck jj) (jF jj jj (jO (ru_set1 jj jj jj hsl hset) (jn ?_))))))))))))))))))))))))))))))))))))))))))))))))))))
 refine WpD.sub (Sub.unPl (t := 9) rfl) ?_
 refine WpD.sub (τ := ⟨[(8, .ptr 8 0), (9, .ptr 9 0)], [(9, [ex (.int .i64 (p)), slc 5 (rows (ccs (fun i => if i = x then ⟨(f x).e, IntKind.i64.wrap ((f x).d + IntKind.i64.wrap (v.tmod 3)), (f x).s, (f x).o, (f x).y⟩ else f i)) n) n]), (8, [ex (.int .i64 0), ex (.slice none 0 0)])]⟩) ?_ ?_
 ·exact Sub.trans (Sub.pubCell (bx0 := [(9, [ex (.int .i64 (p)), ex (gvl blk n cap)]), (8, [ex (.int .i64 0), ex (.slice none 0 0)])]) (sl := [(8, .ptr 8 0), (9, .ptr 9 0)]) (b := 15) (d := 9) (p := 5) (k := 5) rfl rfl (rows_len (ccs_len _) n) rfl rfl hn0 hc.1 hc.2 ⟨.inl ⟨_, rfl, PsLe.refl _⟩, .inl ⟨_, rfl, PsLe.refl _⟩, trivial⟩ rfl ⟨⟨_, rfl, rfl⟩, Option.some_ne_none _, ⟨_, rfl, rfl⟩, Option.some_ne_none _, trivial⟩) (Sub.mk (by repeat (first | exact trivial | refine jv rfl ?_ | refine jw rfl (js0 rfl) ?_)) (by repeat (first | exact trivial | refine jz ?_ | refine jy rfl ?_)))
 repeat (first | refine js ?_ | refine jb ?_)
 refine jr (jL jj jj jj (jP jj jj jj jj (jn (ji ?_))))
 exact ret1 rfl (.cell rfl rfl CRow.ok rfl) (PLe.refl _)
set_option maxHeartbeats 2000000 in
theorem sbent2 (p : Int) (f : Nat → Co) (n : Nat) (at' fl v : Int) (hn0 : 0 < n) (hn : n ≤ 20) (a1 : 0 ≤ at') (a2 : at' ≤ 255) (b1 : 0 ≤ fl) (hk : fl % 8 = 2) : ∃ p' g, Fn Tryz.prog En 26 [locP p f n, ex (.int .u8 at'), ex (.int .u8 fl), ex (.int .i8 v)] (locP p' g n) := by
 have hm : n ≤ 1000000000 := by omega
 obtain ⟨x, hx, hxe⟩ : ∃ x : Nat, x < n ∧ at'.tmod (n : Int) = (x : Int) := ⟨(at' % (n : Int)).toNat, by have := Int.emod_lt_of_pos at' (show (0 : Int) < n by omega); have := Int.emod_nonneg at' (show (n : Int) ≠ 0 by omega); omega, by rw [Int.tmod_eq_emod_of_nonneg a1]; have := Int.emod_nonneg at' (show (n : Int) ≠ 0 by omega); omega⟩
 have wa : IntKind.i64.wrap at' = at' := w64 (by omega) (by omega)
 have wf : fl.tmod 8 = fl % 8 := Int.tmod_eq_emod_of_nonneg b1
 have hnz : ((n : Nat) : Int) ≠ 0 := by omega
 have l1 := fun g : Nat → Co => rows_len (ccs_len g) n
 have hset := rows_setG (g := f) (j := 2) hx (by decide) (ex (.int .i64 (IntKind.i64.wrap (v.tmod 3)))) ⟨(f x).e, (f x).d, IntKind.i64.wrap (v.tmod 3), (f x).o, (f x).y⟩ rfl
 have hsl : x * 5 + 2 < (rows (ccs f) n).length := by rw [l1]; omega
 refine ⟨p, fun i => if i = x then ⟨(f x).e, (f x).d, IntKind.i64.wrap (v.tmod 3), (f x).o, (f x).y⟩ else f i, ?_⟩
 unfold locP
 generalize fl % 8 = q at *
 refine fn_of_body Tryz.func26 rfl Tryz.ntmps26 rfl ?_
 intro w0 h0
 refine js (jr (jB jj jj jj (jA jj jj jj (jn (js ?_)))))
 repeat (first | refine js ?_ | refine jb ?_)
 refine WpD.regL 7 rfl (Chain.cons (LT.plain rfl (ru_fieldAddr rfl rfl)) (Chain.cons (LT.plain rfl (ru_load1 rfl rfl rfl)) (Chain.cons (LT.plain rfl (ru_fieldAddr rfl rfl)) (Chain.cons (LT.plain rfl (ru_load1 rfl rfl rfl)) (Chain.cons (LT.plain rfl (ru_appendE rfl (fun _ _ h => ⟨none, h⟩) rfl hn0 hm rfl rfl rfl)) (Chain.cons (LT.plain rfl (rl_build rfl rfl rfl)) (Chain.cons (LT.plain rfl (ru_alloc rfl rfl rfl)) (Chain.nil _)))))))) (by kernel_rfl) ?_
 refine WpS.openSt (t := 16) (q := 5) rfl rfl hn0 fun blk cap hc => ?_
 refine WpS.N rfl (ru_storeR rfl rfl rfl rfl rfl rfl) rfl ?_
 refine WpS.sub (Sub.mkPl (t := 9) (q := 5) rfl rfl) ?_
 refine WpS.nil ?_
 skip
 repeat (first | refine js ?_ | refine jb ?_)
 refine jr (jS (rl_field jj jj) (jS (rl_load jj jj jj hn0 hc) (jS (ru_lenO jj CSlice.ok) (jS (bEf jj jj) (jn (jf jj (jp (js (jr (jS (rl_field jj jj) (jS (rl_load jj jj jj hn0 hc) (jm jj (jS (bCv jj wa) (jS (rl_field jj jj) (jS (rl_load jj jj jj hn0 hc) (jS (ru_lenO jj CSlice.ok) (jS (bRe jj jj hxe) (jS (ru_indexR jj jj hx (o' := x * 5) (by omega)) (ja jj (jn (js (js (jr (jm jj (jS (bRe jj jj wf) (jn (jb (js (jr (jS (bEf jj jj) (ja jj (jn (jf jj (js (jr (jS (bEf jj jj) (ja jj (jn (jf jj (js (jr (jS (bEt jj jj) (ja jj (jn ?_))))))))))))))))))))))))))))))))))))))))))))
 refine jt jj (jr (jm jj (jm jj (jS (rt_bin jj jj (fun w => run_remi w _ _ _ _ _ _ (by first | decide | omega | assumption))) (jS (rt_conv jj (fun w => run_convi w CInt.ok CInt.ok _ _)) (jS (ru_nilCheck jj) (jF jj jj (jO (ru_set1 jj jj jj hsl hset) (jn ?_)))))))))
 refine WpD.sub (Sub.unPl (t := 9) rfl) ?_
 refine WpD.sub (τ := ⟨[(8, .ptr 8 0), (9, .ptr 9 0)], [(9, [ex (.int .i64 (p)), slc 5 (rows (ccs (fun i => if i = x then ⟨(f x).e, (f x).d, IntKind.i64.wrap (v.tmod 3), (f x).o, (f x).y⟩ else f i)) n) n]), (8, [ex (.int .i64 0), ex (.slice none 0 0)])]⟩) ?_ ?_
 ·exact Sub.trans (Sub.pubCell (bx0 := [(9, [ex (.int .i64 (p)), ex (gvl blk n cap)]), (8, [ex (.int .i64 0), ex (.slice none 0 0)])]) (sl := [(8, .ptr 8 0), (9, .ptr 9 0)]) (b := 15) (d := 9) (p := 5) (k := 5) rfl rfl (rows_len (ccs_len _) n) rfl rfl hn0 hc.1 hc.2 ⟨.inl ⟨_, rfl, PsLe.refl _⟩, .inl ⟨_, rfl, PsLe.refl _⟩, trivial⟩ rfl ⟨⟨_, rfl, rfl⟩, Option.some_ne_none _, ⟨_, rfl, rfl⟩, Option.some_ne_none _, trivial⟩) (Sub.mk (by repeat (first | exact trivial | refine jv rfl ?_ | refine jw rfl (js0 rfl) ?_)) (by repeat (first | exact trivial | refine jz ?_ | refine jy rfl ?_)))
 repeat (first | refine js ?_ | refine jb ?_)
 refine jr (jL jj jj jj (jP jj jj jj jj (jn (ji ?_))))
 exact ret1 rfl (.cell rfl rfl CRow.ok rfl) (PLe.refl _)
set_option maxHeartbeats 2000000 in
theorem sbent3 (p : Int) (f : Nat → Co) (n : Nat) (at' fl v : Int) (hn0 : 0 < n) (hn : n ≤ 20) (a1 : 0 ≤ at') (a2 : at' ≤ 255) (b1 : 0 ≤ fl) (hk : fl % 8 = 3) : ∃ p' g, Fn Tryz.prog En 26 [locP p f n, ex (.int .u8 at'), ex (.int .u8 fl), ex (.int .i8 v)] (locP p' g n) := by
 have hm : n ≤ 1000000000 := by omega
 obtain ⟨x, hx, hxe⟩ : ∃ x : Nat, x < n ∧ at'.tmod (n : Int) = (x : Int) := ⟨(at' % (n : Int)).toNat, by have := Int.emod_lt_of_pos at' (show (0 : Int) < n by omega); have := Int.emod_nonneg at' (show (n : Int) ≠ 0 by omega); omega, by rw [Int.tmod_eq_emod_of_nonneg a1]; have := Int.emod_nonneg at' (show (n : Int) ≠ 0 by omega); omega⟩
 have wa : IntKind.i64.wrap at' = at' := w64 (by omega) (by omega)
 have wf : fl.tmod 8 = fl % 8 := Int.tmod_eq_emod_of_nonneg b1
 have hnz : ((n : Nat) : Int) ≠ 0 := by omega
 have l1 := fun g : Nat → Co => rows_len (ccs_len g) n
 have hset := rows_setG (g := f) (j := 3) hx (by decide) (ex (.bool (!(f x).o))) ⟨(f x).e, (f x).d, (f x).s, !(f x).o, (f x).y⟩ rfl
 have hsl : x * 5 + 3 < (rows (ccs f) n).length := by rw [l1]; omega
 have hcl := rows_cellG (g := f) (n := n) (x := x) (j := 3) (q := ex (.bool (f x).o)) hx (by decide) rfl
 refine ⟨p, fun i => if i = x then ⟨(f x).e, (f x).d, (f x).s, !(f x).o, (f x).y⟩ else f i, ?_⟩
 unfold locP
 generalize fl % 8 = q at *
 refine fn_of_body Tryz.func26 rfl Tryz.ntmps26 rfl ?_
 intro w0 h0
 refine js (jr (jB jj jj jj (jA jj jj jj (jn (js ?_)))))
 repeat (first | refine js ?_ | refine jb ?_)
 refine WpD.regL 7 rfl (Chain.cons (LT.plain rfl (ru_fieldAddr rfl rfl)) (Chain.cons (LT.plain rfl (ru_load1 rfl rfl rfl)) (Chain.cons (LT.plain rfl (ru_fieldAddr rfl rfl)) (Chain.cons (LT.plain rfl (ru_load1 rfl rfl rfl)) (Chain.cons (LT.plain rfl (ru_appendE rfl (fun _ _ h => ⟨none, h⟩) rfl hn0 hm rfl rfl rfl)) (Chain.cons (LT.plain rfl (rl_build rfl rfl rfl)) (Chain.cons (LT.plain rfl (ru_alloc rfl rfl rfl)) (Chain.nil _)))))))) (by kernel_rfl) ?_
 refine WpS.openSt (t := 16) (q := 5) rfl rfl hn0 fun blk cap hc => ?_
 refine WpS.N rfl (ru_storeR rfl rfl rfl rfl rfl rfl) rfl ?_
 refine WpS.sub (Sub.mkPl (t := 9) (q := 5) rfl rfl) ?_
 refine WpS.nil ?_
 skip
 repeat (first | refine js ?_ | refine jb ?_)
 refine jr (jS (rl_field jj jj) (jS (rl_load jj jj jj hn0 hc) (jS (ru_lenO jj CSlice.ok) (jS (bEf jj jj) (jn (jf jj (jp (js (jr (jS (rl_field jj jj) (jS (rl_load jj jj jj hn0 hc) (jm jj (jS (bCv jj wa) (jS (rl_field jj jj) (jS (rl_load jj jj jj hn0 hc) (jS (ru_lenO jj CSlice.ok) (jS (bRe jj jj hxe) (jS (ru_indexR jj jj hx (o' := x * 5) (by omega)) (ja jj (jn (js (js (jr (jm jj (jS (bRe jj jj wf) (jn (jb (js (jr (jS (bEf jj jj) (ja jj (jn (jf jj (js (jr (jS (bEf jj jj) (ja jj (jn (jf jj (js (jr (jS (bEf jj jj) (ja jj (jn ?_))))))))))))))))))))))))))))))))))))))))))))
 refine jf jj (js (jr (jS (bEt jj jj) (ja jj (jn (jt jj (jr (jm jj (jm jj (jS (ru_nilCheck jj) (jF jj jj (jS (ru_load1 jj jj hcl) (jS (bNo jj) (jS (ru_nilCheck jj) (jF jj jj (jO (ru_set1 jj jj jj hsl hset) (jn ?_)))))))))))))))))
 refine WpD.sub (Sub.unPl (t := 9) rfl) ?_
 refine WpD.sub (τ := ⟨[(8, .ptr 8 0), (9, .ptr 9 0)], [(9, [ex (.int .i64 (p)), slc 5 (rows (ccs (fun i => if i = x then ⟨(f x).e, (f x).d, (f x).s, !(f x).o, (f x).y⟩ else f i)) n) n]), (8, [ex (.int .i64 0), ex (.slice none 0 0)])]⟩) ?_ ?_
 ·exact Sub.trans (Sub.pubCell (bx0 := [(9, [ex (.int .i64 (p)), ex (gvl blk n cap)]), (8, [ex (.int .i64 0), ex (.slice none 0 0)])]) (sl := [(8, .ptr 8 0), (9, .ptr 9 0)]) (b := 15) (d := 9) (p := 5) (k := 5) rfl rfl (rows_len (ccs_len _) n) rfl rfl hn0 hc.1 hc.2 ⟨.inl ⟨_, rfl, PsLe.refl _⟩, .inl ⟨_, rfl, PsLe.refl _⟩, trivial⟩ rfl ⟨⟨_, rfl, rfl⟩, Option.some_ne_none _, ⟨_, rfl, rfl⟩, Option.some_ne_none _, trivial⟩) (Sub.mk (by repeat (first | exact trivial | refine jv rfl ?_ | refine jw rfl (js0 rfl) ?_)) (by repeat (first | exact trivial | refine jz ?_ | refine jy rfl ?_)))
 repeat (first | refine js ?_ | refine jb ?_)
 refine jr (jL jj jj jj (jP jj jj jj jj (jn (ji ?_))))
 exact ret1 rfl (.cell rfl rfl CRow.ok rfl) (PLe.refl _)
set_option maxHeartbeats 2000000 in
theorem sbent4 (p : Int) (f : Nat → Co) (n : Nat) (at' fl v : Int) (hn0 : 0 < n) (hn : n ≤ 20) (a1 : 0 ≤ at') (a2 : at' ≤ 255) (b1 : 0 ≤ fl) (hk : fl % 8 = 4) : ∃ p' g, Fn Tryz.prog En 26 [locP p f n, ex (.int .u8 at'), ex (.int .u8 fl), ex (.int .i8 v)] (locP p' g n) := by
 have hm : n ≤ 1000000000 := by omega
 obtain ⟨x, hx, hxe⟩ : ∃ x : Nat, x < n ∧ at'.tmod (n : Int) = (x : Int) := ⟨(at' % (n : Int)).toNat, by have := Int.emod_lt_of_pos at' (show (0 : Int) < n by omega); have := Int.emod_nonneg at' (show (n : Int) ≠ 0 by omega); omega, by rw [Int.tmod_eq_emod_of_nonneg a1]; have := Int.emod_nonneg at' (show (n : Int) ≠ 0 by omega); omega⟩
 have wa : IntKind.i64.wrap at' = at' := w64 (by omega) (by omega)
 have wf : fl.tmod 8 = fl % 8 := Int.tmod_eq_emod_of_nonneg b1
 have hnz : ((n : Nat) : Int) ≠ 0 := by omega
 have l1 := fun g : Nat → Co => rows_len (ccs_len g) n
 have hset := rows_setG (g := f) (j := 4) hx (by decide) (ex (.int .i64 (IntKind.i64.wrap ((f x).y + IntKind.i64.wrap (v.tmod 9))))) ⟨(f x).e, (f x).d, (f x).s, (f x).o, IntKind.i64.wrap ((f x).y + IntKind.i64.wrap (v.tmod 9))⟩ rfl
 have hsl : x * 5 + 4 < (rows (ccs f) n).length := by rw [l1]; omega
 have hcl := rows_cellG (g := f) (n := n) (x := x) (j := 4) (q := ex (.int .i64 (f x).y)) hx (by decide) rfl
 refine ⟨p, fun i => if i = x then ⟨(f x).e, (f x).d, (f x).s, (f x).o, IntKind.i64.wrap ((f x).y + IntKind.i64.wrap (v.tmod 9))⟩ else f i, ?_⟩
 unfold locP
 generalize fl % 8 = q at *
 refine fn_of_body Tryz.func26 rfl Tryz.ntmps26 rfl ?_
 intro w0 h0
 refine js (jr (jB jj jj jj (jA jj jj jj (jn (js ?_)))))
 repeat (first | refine js ?_ | refine jb ?_)
 refine WpD.regL 7 rfl (Chain.cons (LT.plain rfl (ru_fieldAddr rfl rfl)) (Chain.cons (LT.plain rfl (ru_load1 rfl rfl rfl)) (Chain.cons (LT.plain rfl (ru_fieldAddr rfl rfl)) (Chain.cons (LT.plain rfl (ru_load1 rfl rfl rfl)) (Chain.cons (LT.plain rfl (ru_appendE rfl (fun _ _ h => ⟨none, h⟩) rfl hn0 hm rfl rfl rfl)) (Chain.cons (LT.plain rfl (rl_build rfl rfl rfl)) (Chain.cons (LT.plain rfl (ru_alloc rfl rfl rfl)) (Chain.nil _)))))))) (by kernel_rfl) ?_
 refine WpS.openSt (t := 16) (q := 5) rfl rfl hn0 fun blk cap hc => ?_
 refine WpS.N rfl (ru_storeR rfl rfl rfl rfl rfl rfl) rfl ?_
 refine WpS.sub (Sub.mkPl (t := 9) (q := 5) rfl rfl) ?_
 refine WpS.nil ?_
 skip
 repeat (first | refine js ?_ | refine jb ?_)
 refine jr (jS (rl_field jj jj) (jS (rl_load jj jj jj hn0 hc) (jS (ru_lenO jj CSlice.ok) (jS (bEf jj jj) (jn (jf jj (jp (js (jr (jS (rl_field jj jj) (jS (rl_load jj jj jj hn0 hc) (jm jj (jS (bCv jj wa) (jS (rl_field jj jj) (jS (rl_load jj jj jj hn0 hc) (jS (ru_lenO jj CSlice.ok) (jS (bRe jj jj hxe) (jS (ru_indexR jj jj hx (o' := x * 5) (by omega)) (ja jj (jn (js (js (jr (jm jj (jS (bRe jj jj wf) (jn (jb (js (jr (jS (bEf jj jj) (ja jj (jn (jf jj (js (jr (jS (bEf jj jj) (ja jj (jn (jf jj (js (jr (jS (bEf jj jj) (ja jj (jn ?_))))))))))))))))))))))))))))))))))))))))))))
 refine jf jj (js (jr (jS (bEf jj jj) (ja jj (jn (jf jj (js (js (jr (jS (bEt jj jj) (ja jj (jn (jt jj (jp (jt jj (jr (jm jj (jS (ru_nilCheck jj) (jF jj jj (jS (ru_load1 jj jj hcl) (jm jj (jS (rt_bin jj jj (fun w => run_remi w _ _ _ _ _ _ (by first | decide | omega | assumption))) (jS (rt_conv jj (fun w => run_convi w CInt.ok CInt.ok _ _)) (jS (rt_bin jj jj (fun w => run_addi w _ _ _ _ _ _)) (jS (ru_nilCheck jj) (jF jj jj (jO (ru_set1 jj jj jj hsl hset) (jn ?_))))))))))))))))))))))))))))
 refine WpD.sub (Sub.unPl (t := 9) rfl) ?_
 refine WpD.sub (τ := ⟨[(8, .ptr 8 0), (9, .ptr 9 0)], [(9, [ex (.int .i64 (p)), slc 5 (rows (ccs (fun i => if i = x then ⟨(f x).e, (f x).d, (f x).s, (f x).o, IntKind.i64.wrap ((f x).y + IntKind.i64.wrap (v.tmod 9))⟩ else f i)) n) n]), (8, [ex (.int .i64 0), ex (.slice none 0 0)])]⟩) ?_ ?_
 ·exact Sub.trans (Sub.pubCell (bx0 := [(9, [ex (.int .i64 (p)), ex (gvl blk n cap)]), (8, [ex (.int .i64 0), ex (.slice none 0 0)])]) (sl := [(8, .ptr 8 0), (9, .ptr 9 0)]) (b := 15) (d := 9) (p := 5) (k := 5) rfl rfl (rows_len (ccs_len _) n) rfl rfl hn0 hc.1 hc.2 ⟨.inl ⟨_, rfl, PsLe.refl _⟩, .inl ⟨_, rfl, PsLe.refl _⟩, trivial⟩ rfl ⟨⟨_, rfl, rfl⟩, Option.some_ne_none _, ⟨_, rfl, rfl⟩, Option.some_ne_none _, trivial⟩) (Sub.mk (by repeat (first | exact trivial | refine jv rfl ?_ | refine jw rfl (js0 rfl) ?_)) (by repeat (first | exact trivial | refine jz ?_ | refine jy rfl ?_)))
 repeat (first | refine js ?_ | refine jb ?_)
 refine jr (jL jj jj jj (jP jj jj jj jj (jn (ji ?_))))
 exact ret1 rfl (.cell rfl rfl CRow.ok rfl) (PLe.refl _)
set_option maxHeartbeats 2000000 in
theorem sbent5 (p : Int) (f : Nat → Co) (n : Nat) (at' fl v : Int) (hn0 : 0 < n) (hn : n ≤ 20) (a1 : 0 ≤ at') (a2 : at' ≤ 255) (b1 : 0 ≤ fl) (hk : fl % 8 = 5) : ∃ p' g, Fn Tryz.prog En 26 [locP p f n, ex (.int .u8 at'), ex (.int .u8 fl), ex (.int .i8 v)] (locP p' g n) := by
 have hm : n ≤ 1000000000 := by omega
 obtain ⟨x, hx, hxe⟩ : ∃ x : Nat, x < n ∧ at'.tmod (n : Int) = (x : Int) := ⟨(at' % (n : Int)).toNat, by have := Int.emod_lt_of_pos at' (show (0 : Int) < n by omega); have := Int.emod_nonneg at' (show (n : Int) ≠ 0 by omega); omega, by rw [Int.tmod_eq_emod_of_nonneg a1]; have := Int.emod_nonneg at' (show (n : Int) ≠ 0 by omega); omega⟩
 have wa : IntKind.i64.wrap at' = at' := w64 (by omega) (by omega)
 have wf : fl.tmod 8 = fl % 8 := Int.tmod_eq_emod_of_nonneg b1
 have hnz : ((n : Nat) : Int) ≠ 0 := by omega
 have l1 := fun g : Nat → Co => rows_len (ccs_len g) n
 have hset := rows_setG (g := f) (j := 4) hx (by decide) (ex (.int .i64 (IntKind.i64.wrap ((f x).y + IntKind.i64.wrap (v.tmod 9))))) ⟨(f x).e, (f x).d, (f x).s, (f x).o, IntKind.i64.wrap ((f x).y + IntKind.i64.wrap (v.tmod 9))⟩ rfl
 have hsl : x * 5 + 4 < (rows (ccs f) n).length := by rw [l1]; omega
 have hcl := rows_cellG (g := f) (n := n) (x := x) (j := 4) (q := ex (.int .i64 (f x).y)) hx (by decide) rfl
 refine ⟨p, fun i => if i = x then ⟨(f x).e, (f x).d, (f x).s, (f x).o, IntKind.i64.wrap ((f x).y + IntKind.i64.wrap (v.tmod 9))⟩ else f i, ?_⟩
 unfold locP
 generalize fl % 8 = q at *
 refine fn_of_body Tryz.func26 rfl Tryz.ntmps26 rfl ?_
 intro w0 h0
 refine js (jr (jB jj jj jj (jA jj jj jj (jn (js ?_)))))
 repeat (first | refine js ?_ | refine jb ?_)
 refine WpD.regL 7 rfl (Chain.cons (LT.plain rfl (ru_fieldAddr rfl rfl)) (Chain.cons (LT.plain rfl (ru_load1 rfl rfl rfl)) (Chain.cons (LT.plain rfl (ru_fieldAddr rfl rfl)) (Chain.cons (LT.plain rfl (ru_load1 rfl rfl rfl)) (Chain.cons (LT.plain rfl (ru_appendE rfl (fun _ _ h => ⟨none, h⟩) rfl hn0 hm rfl rfl rfl)) (Chain.cons (LT.plain rfl (rl_build rfl rfl rfl)) (Chain.cons (LT.plain rfl (ru_alloc rfl rfl rfl)) (Chain.nil _)))))))) (by kernel_rfl) ?_
 refine WpS.openSt (t := 16) (q := 5) rfl rfl hn0 fun blk cap hc => ?_
 refine WpS.N rfl (ru_storeR rfl rfl rfl rfl rfl rfl) rfl ?_
 refine WpS.sub (Sub.mkPl (t := 9) (q := 5) rfl rfl) ?_
 refine WpS.nil ?_
 skip
 repeat (first | refine js ?_ | refine jb ?_)
 refine jr (jS (rl_field jj jj) (jS (rl_load jj jj jj hn0 hc) (jS (ru_lenO jj CSlice.ok) (jS (bEf jj jj) (jn (jf jj (jp (js (jr (jS (rl_field jj jj) (jS (rl_load jj jj jj hn0 hc) (jm jj (jS (bCv jj wa) (jS (rl_field jj jj) (jS (rl_load jj jj jj hn0 hc) (jS (ru_lenO jj CSlice.ok) (jS (bRe jj jj hxe) (jS (ru_indexR jj jj hx (o' := x * 5) (by omega)) (ja jj (jn (js (js (jr (jm jj (jS (bRe jj jj wf) (jn (jb (js (jr (jS (bEf jj jj) (ja jj (jn (jf jj (js (jr (jS (bEf jj jj) (ja jj (jn (jf jj (js (jr (jS (bEf jj jj) (ja jj (jn ?_))))))))))))))))))))))))))))))))))))))))))))
 refine jf jj (js (jr (jS (bEf jj jj) (ja jj (jn (jf jj (js (js (jr (jS (bEf jj jj) (ja jj (jn (jf jj (jr (jS (bEt jj jj) (ja jj (jn (jt jj (jr (jm jj (jS (ru_nilCheck jj) (jF jj jj (jS (ru_load1 jj jj hcl) (jm jj (jS (rt_bin jj jj (fun w => run_remi w _ _ _ _ _ _ (by first | decide | omega | assumption))) (jS (rt_conv jj (fun w => run_convi w CInt.ok CInt.ok _ _)) (jS (rt_bin jj jj (fun w => run_addi w _ _ _ _ _ _)) (jS (ru_nilCheck jj) (jF jj jj (jO (ru_set1 jj jj jj hsl hset) (jn ?_)))))))))))))))))))))))))))))))
 refine WpD.sub (Sub.unPl (t := 9) rfl) ?_
 refine WpD.sub (τ := ⟨[(8, .ptr 8 0), (9, .ptr 9 0)], [(9, [ex (.int .i64 (p)), slc 5 (rows (ccs (fun i => if i = x then ⟨(f x).e, (f x).d, (f x).s, (f x).o, IntKind.i64.wrap ((f x).y + IntKind.i64.wrap (v.tmod 9))⟩ else f i)) n) n]), (8, [ex (.int .i64 0), ex (.slice none 0 0)])]⟩) ?_ ?_
 ·exact Sub.trans (Sub.pubCell (bx0 := [(9, [ex (.int .i64 (p)), ex (gvl blk n cap)]), (8, [ex (.int .i64 0), ex (.slice none 0 0)])]) (sl := [(8, .ptr 8 0), (9, .ptr 9 0)]) (b := 15) (d := 9) (p := 5) (k := 5) rfl rfl (rows_len (ccs_len _) n) rfl rfl hn0 hc.1 hc.2 ⟨.inl ⟨_, rfl, PsLe.refl _⟩, .inl ⟨_, rfl, PsLe.refl _⟩, trivial⟩ rfl ⟨⟨_, rfl, rfl⟩, Option.some_ne_none _, ⟨_, rfl, rfl⟩, Option.some_ne_none _, trivial⟩) (Sub.mk (by repeat (first | exact trivial | refine jv rfl ?_ | refine jw rfl (js0 rfl) ?_)) (by repeat (first | exact trivial | refine jz ?_ | refine jy rfl ?_)))
 repeat (first | refine js ?_ | refine jb ?_)
 refine jr (jL jj jj jj (jP jj jj jj jj (jn (ji ?_))))
 exact ret1 rfl (.cell rfl rfl CRow.ok rfl) (PLe.refl _)
set_option maxHeartbeats 2000000 in
theorem sbent6 (p : Int) (f : Nat → Co) (n : Nat) (at' fl v : Int) (hn0 : 0 < n) (hn : n ≤ 20) (a1 : 0 ≤ at') (a2 : at' ≤ 255) (b1 : 0 ≤ fl) (hk : fl % 8 = 6) : ∃ p' g, Fn Tryz.prog En 26 [locP p f n, ex (.int .u8 at'), ex (.int .u8 fl), ex (.int .i8 v)] (locP p' g n) := by
 have hm : n ≤ 1000000000 := by omega
 obtain ⟨x, hx, hxe⟩ : ∃ x : Nat, x < n ∧ at'.tmod (n : Int) = (x : Int) := ⟨(at' % (n : Int)).toNat, by have := Int.emod_lt_of_pos at' (show (0 : Int) < n by omega); have := Int.emod_nonneg at' (show (n : Int) ≠ 0 by omega); omega, by rw [Int.tmod_eq_emod_of_nonneg a1]; have := Int.emod_nonneg at' (show (n : Int) ≠ 0 by omega); omega⟩
 have wa : IntKind.i64.wrap at' = at' := w64 (by omega) (by omega)
 have wf : fl.tmod 8 = fl % 8 := Int.tmod_eq_emod_of_nonneg b1
 have hnz : ((n : Nat) : Int) ≠ 0 := by omega
 have l1 := fun g : Nat → Co => rows_len (ccs_len g) n
 refine ⟨IntKind.i64.wrap (p + IntKind.i64.wrap (v.tmod 2)), f, ?_⟩
 unfold locP
 generalize fl % 8 = q at *
 refine fn_of_body Tryz.func26 rfl Tryz.ntmps26 rfl ?_
 intro w0 h0
 refine js (jr (jB jj jj jj (jA jj jj jj (jn (js ?_)))))
 repeat (first | refine js ?_ | refine jb ?_)
 refine WpD.regL 7 rfl (Chain.cons (LT.plain rfl (ru_fieldAddr rfl rfl)) (Chain.cons (LT.plain rfl (ru_load1 rfl rfl rfl)) (Chain.cons (LT.plain rfl (ru_fieldAddr rfl rfl)) (Chain.cons (LT.plain rfl (ru_load1 rfl rfl rfl)) (Chain.cons (LT.plain rfl (ru_appendE rfl (fun _ _ h => ⟨none, h⟩) rfl hn0 hm rfl rfl rfl)) (Chain.cons (LT.plain rfl (rl_build rfl rfl rfl)) (Chain.cons (LT.plain rfl (ru_alloc rfl rfl rfl)) (Chain.nil _)))))))) (by kernel_rfl) ?_
 refine WpS.openSt (t := 16) (q := 5) rfl rfl hn0 fun blk cap hc => ?_
 refine WpS.N rfl (ru_storeR rfl rfl rfl rfl rfl rfl) rfl ?_
 refine WpS.sub (Sub.mkPl (t := 9) (q := 5) rfl rfl) ?_
 refine WpS.nil ?_
 skip
 repeat (first | refine js ?_ | refine jb ?_)
 refine jr (jS (rl_field jj jj) (jS (rl_load jj jj jj hn0 hc) (jS (ru_lenO jj CSlice.ok) (jS (bEf jj jj) (jn (jf jj (jp (js (jr (jS (rl_field jj jj) (jS (rl_load jj jj jj hn0 hc) (jm jj (jS (bCv jj wa) (jS (rl_field jj jj) (jS (rl_load jj jj jj hn0 hc) (jS (ru_lenO jj CSlice.ok) (jS (bRe jj jj hxe) (jS (ru_indexR jj jj hx (o' := x * 5) (by omega)) (ja jj (jn (js (js (jr (jm jj (jS (bRe jj jj wf) (jn (jb (js (jr (jS (bEf jj jj) (ja jj (jn (jf jj (js (jr (jS (bEf jj jj) (ja jj (jn (jf jj (js (jr (jS (bEf jj jj) (ja jj (jn ?_))))))))))))))))))))))))))))))))))))))))))))
 refine jf jj (js (jr (jS (bEf jj jj) (ja jj (jn (jf jj (js (js (jr (jS (bEf jj jj) (ja jj (jn (jf jj (jr (jS (bEf jj jj) (ja jj (jn (jf jj (js (jr (jS (bEt jj jj) (ja jj (jn (jt jj (jr (jS (rl_fieldP jj jj) (jl jj jj jj (jm jj (jS (rt_bin jj jj (fun w => run_remi w _ _ _ _ _ _ (by first | decide | omega | assumption))) (jS (rt_conv jj (fun w => run_convi w CInt.ok CInt.ok _ _)) (jS (rt_bin jj jj (fun w => run_addi w _ _ _ _ _ _)) (jS (rl_fieldP jj jj) (jO (ru_store1 jj jj jj jj jj) (jn ?_))))))))))))))))))))))))))))))))))
 refine WpD.sub (Sub.unPl (t := 9) rfl) ?_
 refine WpD.sub (τ := ⟨[(8, .ptr 8 0), (9, .ptr 9 0)], [(9, [ex (.int .i64 (IntKind.i64.wrap (p + IntKind.i64.wrap (v.tmod 2)))), slc 5 (rows (ccs (f)) n) n]), (8, [ex (.int .i64 0), ex (.slice none 0 0)])]⟩) ?_ ?_
 ·exact Sub.trans (Sub.pubCell (bx0 := [(9, [ex (.int .i64 (IntKind.i64.wrap (p + IntKind.i64.wrap (v.tmod 2)))), ex (gvl blk n cap)]), (8, [ex (.int .i64 0), ex (.slice none 0 0)])]) (sl := [(8, .ptr 8 0), (9, .ptr 9 0)]) (b := 15) (d := 9) (p := 5) (k := 5) rfl rfl (rows_len (ccs_len _) n) rfl rfl hn0 hc.1 hc.2 ⟨.inl ⟨_, rfl, PsLe.refl _⟩, .inl ⟨_, rfl, PsLe.refl _⟩, trivial⟩ rfl ⟨⟨_, rfl, rfl⟩, Option.some_ne_none _, ⟨_, rfl, rfl⟩, Option.some_ne_none _, trivial⟩) (Sub.mk (by repeat (first | exact trivial | refine jv rfl ?_ | refine jw rfl (js0 rfl) ?_)) (by repeat (first | exact trivial | refine jz ?_ | refine jy rfl ?_)))
 repeat (first | refine js ?_ | refine jb ?_)
 refine jr (jL jj jj jj (jP jj jj jj jj (jn (ji ?_))))
 exact ret1 rfl (.cell rfl rfl CRow.ok rfl) (PLe.refl _)
set_option maxHeartbeats 2000000 in
theorem sbent7 (p : Int) (f : Nat → Co) (n : Nat) (at' fl v : Int) (hn0 : 0 < n) (hn : n ≤ 20) (a1 : 0 ≤ at') (a2 : at' ≤ 255) (b1 : 0 ≤ fl) (hk : fl % 8 = 7) : ∃ p' g, Fn Tryz.prog En 26 [locP p f n, ex (.int .u8 at'), ex (.int .u8 fl), ex (.int .i8 v)] (locP p' g n) := by
 have hm : n ≤ 1000000000 := by omega
 obtain ⟨x, hx, hxe⟩ : ∃ x : Nat, x < n ∧ at'.tmod (n : Int) = (x : Int) := ⟨(at' % (n : Int)).toNat, by have := Int.emod_lt_of_pos at' (show (0 : Int) < n by omega); have := Int.emod_nonneg at' (show (n : Int) ≠ 0 by omega); omega, by rw [Int.tmod_eq_emod_of_nonneg a1]; have := Int.emod_nonneg at' (show (n : Int) ≠ 0 by omega); omega⟩
 have wa : IntKind.i64.wrap at' = at' := w64 (by omega) (by omega)
 have wf : fl.tmod 8 = fl % 8 := Int.tmod_eq_emod_of_nonneg b1
 have hnz : ((n : Nat) : Int) ≠ 0 := by omega
 have l1 := fun g : Nat → Co => rows_len (ccs_len g) n
 refine ⟨p, f, ?_⟩
 unfold locP
 generalize fl % 8 = q at *
 refine fn_of_body Tryz.func26 rfl Tryz.ntmps26 rfl ?_
 intro w0 h0
 refine js (jr (jB jj jj jj (jA jj jj jj (jn (js ?_)))))
 repeat (first | refine js ?_ | refine jb ?_)
 refine WpD.regL 7 rfl (Chain.cons (LT.plain rfl (ru_fieldAddr rfl rfl)) (Chain.cons (LT.plain rfl (ru_load1 rfl rfl rfl)) (Chain.cons (LT.plain rfl (ru_fieldAddr rfl rfl)) (Chain.cons (LT.plain rfl (ru_load1 rfl rfl rfl)) (Chain.cons (LT.plain rfl (ru_appendE rfl (fun _ _ h => ⟨none, h⟩) rfl hn0 hm rfl rfl rfl)) (Chain.cons (LT.plain rfl (rl_build rfl rfl rfl)) (Chain.cons (LT.plain rfl (ru_alloc rfl rfl rfl)) (Chain.nil _)))))))) (by kernel_rfl) ?_
 refine WpS.openSt (t := 16) (q := 5) rfl rfl hn0 fun blk cap hc => ?_
 refine WpS.N rfl (ru_storeR rfl rfl rfl rfl rfl rfl) rfl ?_
 refine WpS.sub (Sub.mkPl (t := 9) (q := 5) rfl rfl) ?_
 refine WpS.nil ?_
 skip
 repeat (first | refine js ?_ | refine jb ?_)
 refine jr (jS (rl_field jj jj) (jS (rl_load jj jj jj hn0 hc) (jS (ru_lenO jj CSlice.ok) (jS (bEf jj jj) (jn (jf jj (jp (js (jr (jS (rl_field jj jj) (jS (rl_load jj jj jj hn0 hc) (jm jj (jS (bCv jj wa) (jS (rl_field jj jj) (jS (rl_load jj jj jj hn0 hc) (jS (ru_lenO jj CSlice.ok) (jS (bRe jj jj hxe) (jS (ru_indexR jj jj hx (o' := x * 5) (by omega)) (ja jj (jn (js (js (jr (jm jj (jS (bRe jj jj wf) (jn (jb (js (jr (jS (bEf jj jj) (ja jj (jn (jf jj (js (jr (jS (bEf jj jj) (ja jj (jn (jf jj (js (jr (jS (bEf jj jj) (ja jj (jn ?_))))))))))))))))))))))))))))))))))))))))))))
 refine jf jj (js (jr (jS (bEf jj jj) (ja jj (jn (jf jj (js (js (jr (jS (bEf jj jj) (ja jj (jn (jf jj (jr (jS (bEf jj jj) (ja jj (jn (jf jj (js (jr (jS (bEf jj jj) (ja jj (jn (jf jj (jp ?_)))))))))))))))))))))))))
 refine WpD.sub (Sub.unPl (t := 9) rfl) ?_
 refine WpD.sub (τ := ⟨[(8, .ptr 8 0), (9, .ptr 9 0)], [(9, [ex (.int .i64 (p)), slc 5 (rows (ccs (f)) n) n]), (8, [ex (.int .i64 0), ex (.slice none 0 0)])]⟩) ?_ ?_
 ·exact Sub.trans (Sub.pubCell (bx0 := [(9, [ex (.int .i64 (p)), ex (gvl blk n cap)]), (8, [ex (.int .i64 0), ex (.slice none 0 0)])]) (sl := [(8, .ptr 8 0), (9, .ptr 9 0)]) (b := 15) (d := 9) (p := 5) (k := 5) rfl rfl (rows_len (ccs_len _) n) rfl rfl hn0 hc.1 hc.2 ⟨.inl ⟨_, rfl, PsLe.refl _⟩, .inl ⟨_, rfl, PsLe.refl _⟩, trivial⟩ rfl ⟨⟨_, rfl, rfl⟩, Option.some_ne_none _, ⟨_, rfl, rfl⟩, Option.some_ne_none _, trivial⟩) (Sub.mk (by repeat (first | exact trivial | refine jv rfl ?_ | refine jw rfl (js0 rfl) ?_)) (by repeat (first | exact trivial | refine jz ?_ | refine jy rfl ?_)))
 repeat (first | refine js ?_ | refine jb ?_)
 refine jr (jL jj jj jj (jP jj jj jj jj (jn (ji ?_))))
 exact ret1 rfl (.cell rfl rfl CRow.ok rfl) (PLe.refl _)
theorem sbent (p : Int) (f : Nat → Co) (n : Nat) (at' fl v : Int) (hn0 : 0 < n) (hn : n ≤ 20) (a1 : 0 ≤ at') (a2 : at' ≤ 255) (b1 : 0 ≤ fl) : ∃ p' g, Fn Tryz.prog En 26 [locP p f n, ex (.int .u8 at'), ex (.int .u8 fl), ex (.int .i8 v)] (locP p' g n) := by
 have h8 : fl % 8 = 0 ∨ fl % 8 = 1 ∨ fl % 8 = 2 ∨ fl % 8 = 3 ∨ fl % 8 = 4 ∨ fl % 8 = 5 ∨ fl % 8 = 6 ∨ fl % 8 = 7 := by omega
 rcases h8 with h | h | h | h | h | h | h | h
 ·exact sbent0 En p f n at' fl v hn0 hn a1 a2 b1 h
 ·exact sbent1 En p f n at' fl v hn0 hn a1 a2 b1 h
 ·exact sbent2 En p f n at' fl v hn0 hn a1 a2 b1 h
 ·exact sbent3 En p f n at' fl v hn0 hn a1 a2 b1 h
 ·exact sbent4 En p f n at' fl v hn0 hn a1 a2 b1 h
 ·exact sbent5 En p f n at' fl v hn0 hn a1 a2 b1 h
 ·exact sbent6 En p f n at' fl v hn0 hn a1 a2 b1 h
 ·exact sbent7 En p f n at' fl v hn0 hn a1 a2 b1 h
theorem lsome (p : Int) (f : Nat → Co) (n : Nat) (hn : n ≤ 20) (pk : Int) (x : Nat → By) (m : Nat) (hm : m ≤ 20) (k1 : 0 ≤ pk) (k2 : pk ≤ 255) (at' fl v : Int) (a1 : 0 ≤ at') (a2 : at' ≤ 255) (b1 : 0 ≤ fl) (made : Bool) : ∃ p' g n', n' ≤ 20 ∧ Fn Tryz.prog En 10 [locP p f n, aggP [ex (.int .u8 pk), slc 5 (rows (bys x) m) m], ex (.int .u8 at'), ex (.int .u8 fl), ex (.int .i8 v), ex (.bool made)] (locP p' g n') := by
 cases made with
 | false =>
  refine ⟨p, f, n, hn, ?_⟩
  unfold locP
  refine fn_of_body Tryz.func10 rfl Tryz.ntmps10 rfl ?_
  intro w0 h0
  refine js (jr (jB jj jj jj (jB jj jj jj (jA jj jj jj (jn (js (js (jr (jm jj (jn (jf jj (jp (js (jr (jL jj jj jj (jP jj jj jj jj (jn (ji ?_))))))))))))))))))
  exact ret1 rfl (.cell rfl rfl CRow.ok rfl) (PLe.refl _)
 | true =>
  have h1 := (scOdd x m).n1
  have h8 := (scOdd x m).n8
  have C1 := sany En pk x m hm k1 k2
  obtain ⟨p', g, C2⟩ := sbent En (anP pk) (anF pk x m) (scN x m) at' fl v (by omega) (by omega) a1 a2 b1
  refine ⟨p', g, scN x m, by omega, ?_⟩
  unfold locP at *
  refine fn_of_body Tryz.func10 rfl Tryz.ntmps10 rfl ?_
  intro w0 h0
  refine js (jr (jB jj jj jj (jB jj jj jj (jA jj jj jj (jn (js (js (jr (jm jj (jn (jt jj (js (jr (jL jj jj jj (jS (ru_call C1 ⟨jj, jj, trivial⟩) (jm jj (jm jj (jm jj (jS (ru_call C2 ⟨jj, jj, jj, jj, trivial⟩) (jP jj jj jj jj (jn (ji ?_))))))))))))))))))))))
  exact ret1 rfl (.cell rfl rfl CRow.ok rfl) (PLe.refl _)
theorem llong (p : Int) (f : Nat → Co) (n : Nat) : Fn Tryz.prog En 8 [locP p f n] (ex (.bool (decide ((n : Int) > 20)))) := by
 unfold locP
 refine fn_of_body Tryz.func8 rfl Tryz.ntmps8 rfl ?_
 intro w0 h0
 refine js (jr (jB jj jj jj (ja jj (jn (js (jr (jF jj jj (jl jj jj jj (jE jj (jS (rt_bin jj jj (fun w => run_gti w _ _ _ _ _ _)) (ja jj (jn (ji ?_)))))))))))))
 exact ret1 rfl (.tmp rfl) (PLe.refl _)
end
end Go.Proofs.YtdieokoenhncfaaGreatDoor

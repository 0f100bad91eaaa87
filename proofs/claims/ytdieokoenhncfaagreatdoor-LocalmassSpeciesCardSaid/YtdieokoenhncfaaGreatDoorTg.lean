/- The scene's symbols for odd primes. (With LT.skipU.) -/
import Derived.Test.YtdieokoenhncfaaGreatDoorZa
import Derived.Test.YtdieokoenhncfaaGreatDoorMo
import Derived.Test.YtdieokoenhncfaaGreatDoorMy
import Derived.Test.YtdieokoenhncfaaGreatDoorTc
set_option maxRecDepth 3000
namespace Go.Proofs.YtdieokoenhncfaaGreatDoor
open Go.RowKit Limb Num
instance crow_b5 : CRow Tryz.prog 105 5 := ⟨⟨_, Tryz.underlying105, rfl, by kernel_rfl⟩⟩
instance carr_b5 : CArr Tryz.prog 105 5 5 1 := ⟨Tryz.underlying105, by kernel_rfl⟩
theorem zero_b5 : ZeroOf Tryz.prog 105 [.int .u8 0, .int .u8 0, .int .u8 0, .int .u8 0, .int .u8 0] := ⟨by kernel_rfl, by simp [Value.oneCell']⟩
instance czero_b5 : CZero Tryz.prog 105 [.int .u8 0, .int .u8 0, .int .u8 0, .int .u8 0, .int .u8 0] := ⟨zero_b5⟩
instance cslice_b5 : CSlice Tryz.prog 25 105 := ⟨Tryz.underlying25⟩
instance celem_b5 : CElem Tryz.prog 25 105 5 := ⟨Tryz.underlying25, by kernel_rfl⟩
instance cone_b5s : COne Tryz.prog 25 := ⟨⟨_, Tryz.underlying25, rfl, by kernel_rfl⟩⟩
instance crow_sym : CRow Tryz.prog 27 2 := ⟨⟨_, Tryz.underlying27, rfl, by kernel_rfl⟩⟩
instance cfield_sym0 : CField Tryz.prog 27 0 0 := ⟨⟨_, _, Tryz.underlying27, rfl, rfl, by kernel_rfl⟩⟩
instance cfield_sym1 : CField Tryz.prog 27 1 1 := ⟨⟨_, _, Tryz.underlying27, rfl, rfl, by kernel_rfl⟩⟩
instance cbody81 : CBody Tryz.prog 81 := ⟨⟨_, Tryz.func81, rfl, by rfl⟩⟩
instance cbody43 : CBody Tryz.prog 43 := ⟨⟨_, Tryz.func43, rfl, by rfl⟩⟩
instance cbody41 : CBody Tryz.prog 41 := ⟨⟨_, Tryz.func41, rfl, by rfl⟩⟩
section
variable {P : Program} {En : Ev} {n : Nat} {sl : Sl} {bx : Bx} {dst : Option Tmp} {ty : TypeId} {pos : String} {after : Array Edge} {guard : Option (Nat × Bool)}
theorem rt_min {x y : Operand} {k : IntKind} {a b : Int} {T : TypeId} (hx : osd sl x = some (.one (ex (.int k a)))) (hy : osd sl y = some (.one (ex (.int k b)))) {m : Int} (hm : (if b < a then b else a) = m) : RT P En n ⟨dst, .call ⟨.builtin .min, #[x, y], #[T, T]⟩, ty, pos, after, guard⟩ sl bx ⟨.one (ex (.int k m)), [], []⟩ :=
 RT.pure fun ρ h β bx' H => by
  subst hm
  have h1 : ρ x = .int k a := (H x (by simp [Op.operands, Call.operands]) _ hx).1
  have h2 : ρ y = .int k b := (H y (by simp [Op.operands, Call.operands]) _ hy).1
  refine ⟨_, fun w _ => ?_, rfl, trivial⟩
  simp [execOp, resolve, invoke, builtin, Builtin.min_, Builtin.min2, h1, h2]
end
structure By where
 b : Nat → Int
 lo : ∀ j, 0 ≤ b j
 hi : ∀ j, b j ≤ 255
def byc (x : By) : List Pd := [ex (.int .u8 (x.b 0)), ex (.int .u8 (x.b 1)), ex (.int .u8 (x.b 2)), ex (.int .u8 (x.b 3)), ex (.int .u8 (x.b 4))]
def bys (x : Nat → By) : Nat → List Pd := fun i => byc (x i)
theorem bys_len (x : Nat → By) (i : Nat) : (bys x i).length = 5 := rfl
def mn3 (r : Int) : Int := if r < 3 then r else 3
section
variable (En : Ev)
theorem scons (x : By) (e r : Int) (hr : 1 ≤ r) (hr2 : r ≤ 8) : Fn Tryz.prog En 81 [aggP (byc x), ex (.int .i64 e), ex (.int .i64 r), ex (.bool false)] (aggP (coc ⟨e, 1 + x.b 1 % mn3 r, 1 - 2 * (x.b 2 % 2), false, 0⟩)) := by
 have a1 := x.lo 1
 have a2 := x.hi 1
 have a3 := x.lo 2
 have a4 := x.hi 2
 have hm1 : 1 ≤ mn3 r := by unfold mn3; split <;> omega
 have hm2 : mn3 r ≤ 3 := by unfold mn3; split <;> omega
 have hmn : (if r < 3 then r else 3) = mn3 r := rfl
 generalize mn3 r = q at *
 have hq0 : q ≠ 0 := by omega
 have r1 := Int.emod_nonneg (x.b 1) hq0
 have r2 := Int.emod_lt_of_pos (x.b 1) (show 0 < q by omega)
 have w1 : IntKind.i64.wrap (x.b 1) = x.b 1 := w64 (by omega) (by omega)
 have w2 : (x.b 1).tmod q = x.b 1 % q := Int.tmod_eq_emod_of_nonneg a1
 have w3 : IntKind.i64.wrap (1 + x.b 1 % q) = 1 + x.b 1 % q := w64 (by omega) (by omega)
 have w4 : (x.b 2).tmod 2 = x.b 2 % 2 := Int.tmod_eq_emod_of_nonneg a3
 have w5 : IntKind.i64.wrap (x.b 2 % 2) = x.b 2 % 2 := w64 (by omega) (by omega)
 have w6 : IntKind.i64.wrap (2 * (x.b 2 % 2)) = 2 * (x.b 2 % 2) := w64 (by omega) (by omega)
 have w7 : IntKind.i64.wrap (1 - 2 * (x.b 2 % 2)) = 1 - 2 * (x.b 2 % 2) := w64 (by omega) (by omega)
 unfold byc coc
 dsimp only
 refine fn_of_body Tryz.func81 rfl Tryz.ntmps81 rfl ?_
 intro w0 h0
 refine js (jr (jB jj jj jj (jA jj jj jj (jn (js (jr (jm jj (jS (ru_indexArr (i := 1) jj jj (by decide) jj) (jl jj jj jj (jS (bCv jj w1) (jm jj (jS (rt_min jj jj hmn) (jS (bRe jj jj w2) (jS (bAd jj jj w3) (jS (ru_indexArr (i := 2) jj jj (by decide) jj) (jl jj jj jj (jS (bRe jj jj w4) (jS (bCv jj w5) (jS (bMu jj jj w6) (jS (bSu jj jj w7) (jS (ru_build (ps := [(_, _), (_, _), (_, _)]) ⟨jj, Part.c jj, jj, Part.c jj, jj, Part.c jj, trivial⟩ jj) (jA jj jj jj (jP jj jj jj jj (jn (js (js (jr (jm jj (jn (jf jj (jp (js (jr (jL jj jj jj (jP jj jj jj jj (jn (ji ?_)))))))))))))))))))))))))))))))))))))
 exact ret1 rfl (.cell rfl rfl CRow.ok rfl) (PLe.refl _)
end
def sn (x : Nat → By) : Nat → Int
 | 0 => 0
 | i + 1 => sn x i + (1 + (x i).b 1 % mn3 (8 - sn x i))
def se (x : Nat → By) : Nat → Int
 | 0 => -1
 | i + 1 => se x i + (1 + (x i).b 0 % 4 % 3)
def sf (x : Nat → By) (i : Nat) : Co := ⟨se x (i + 1), 1 + (x i).b 1 % mn3 (8 - sn x i), 1 - 2 * ((x i).b 2 % 2), false, 0⟩
theorem dm_bd (x : By) {r : Int} (h : 1 ≤ r) : 0 ≤ x.b 1 % mn3 r ∧ 1 + x.b 1 % mn3 r ≤ 3 ∧ 1 + x.b 1 % mn3 r ≤ r := by
 have hm : 1 ≤ mn3 r ∧ mn3 r ≤ 3 ∧ mn3 r ≤ r := by unfold mn3; split <;> omega
 have r1 := Int.emod_nonneg (x.b 1) (show mn3 r ≠ 0 by omega)
 have r2 := Int.emod_lt_of_pos (x.b 1) (show 0 < mn3 r by omega)
 omega
theorem sn_bd (x : Nat → By) : ∀ {i : Nat}, (∀ j, j < i → sn x j < 8) → (i : Int) ≤ sn x i ∧ sn x i ≤ 8
 | 0, _ => by simp [sn]
 | i + 1, h => by
  have ih := sn_bd x (i := i) fun j hj => h j (by omega)
  have h1 := h i (by omega)
  have h2 := dm_bd (x i) (r := 8 - sn x i) (by omega)
  rw [sn]
  omega
theorem se_bd (x : Nat → By) : ∀ i : Nat, (i : Int) - 1 ≤ se x i ∧ se x i ≤ 3 * (i : Int) - 1
 | 0 => by simp [se]
 | i + 1 => by
  have ih := se_bd x i
  rw [se]
  omega
def cntF (x : Nat → By) (m : Nat) : Nat → Nat → Nat
 | 0, i => i
 | u + 1, i => if i < m ∧ sn x i < 8 then cntF x m u (i + 1) else i
theorem cntF_eq {x : Nat → By} {m i : Nat} (hs : ¬ (i < m ∧ sn x i < 8)) : ∀ {u k : Nat}, k ≤ i → i ≤ k + u → (∀ j, j < i → j < m ∧ sn x j < 8) → cntF x m u k = i
 | 0, k, h1, h2, _ => by rw [cntF]; omega
 | u + 1, k, h1, h2, h => by
  rw [cntF]
  by_cases hk : k = i
  ·rw [hk, if_neg hs]
  ·rw [if_pos (h k (by omega))]
   exact cntF_eq hs (by omega) (by omega) h
def scN (x : Nat → By) (m : Nat) : Nat := if m = 0 then 1 else cntF x m m 0
def scF (x : Nat → By) (m : Nat) : Nat → Co := if m = 0 then (fun _ => ⟨0, 1, 1, false, 0⟩) else sf x
theorem cnt_ok (x : Nat → By) (m : Nat) : ∃ i, i ≤ m ∧ (∀ j, j < i → j < m ∧ sn x j < 8) ∧ ¬ (i < m ∧ sn x i < 8) := by
 have : ∀ u k, k + u = m → (∀ j, j < k → j < m ∧ sn x j < 8) → ∃ i, i ≤ m ∧ (∀ j, j < i → j < m ∧ sn x j < 8) ∧ ¬ (i < m ∧ sn x i < 8) := by
  intro u
  induction u with
  | zero => exact fun k hk h => ⟨k, by omega, h, by omega⟩
  | succ u ih =>
   intro k hk h
   by_cases hc : k < m ∧ sn x k < 8
   ·refine ih (k + 1) (by omega) fun j hj => ?_
    rcases Nat.lt_or_ge j k with h' | h'
    ·exact h j h'
    ·rw [show j = k by omega]; exact hc
   ·exact ⟨k, by omega, h, hc⟩
 exact this m 0 (by omega) fun j hj => by omega
theorem dsm_sn (x : Nat → By) : ∀ i, dsm (sf x) i = sn x i
 | 0 => rfl
 | i + 1 => by rw [dsm, dsm_sn x i]; rfl
theorem scOdd (x : Nat → By) (m : Nat) : OddL (scF x m) (scN x m) := by
 by_cases hm : m = 0
 ·unfold scF scN
  rw [if_pos hm, if_pos hm]
  exact ⟨⟨by omega, by omega, fun _ _ => by show (0 : Int) ≤ 0; omega, fun _ _ => by show (0 : Int) ≤ 100; omega, fun _ _ => by show (1 : Int) ≤ 1; omega, fun _ _ => by show (1 : Int) ≤ 8; omega, fun i j h1 h2 => by omega⟩,
   fun _ _ => by show (0 : Int) ≤ 60; omega, fun _ _ => .inl rfl, fun _ _ => rfl, fun _ _ => rfl, by show (0 : Int) + 1 ≤ 8; omega⟩
 ·obtain ⟨i, h1, h2, h3⟩ := cnt_ok x m
  have hc : scN x m = i := by unfold scN; rw [if_neg hm]; exact cntF_eq h3 (by omega) (by omega) h2
  rw [hc]
  unfold scF
  rw [if_neg hm]
  have hi1 : 1 ≤ i := by
   rcases Nat.lt_or_ge i 1 with h | h
   ·rw [show i = 0 by omega] at h3
    exact absurd ⟨by omega, by show (0 : Int) < 8; omega⟩ h3
   ·exact h
  have hlt : ∀ j, j < i → sn x j < 8 := fun j hj => (h2 j hj).2
  have hi8 : i ≤ 8 := by
   have a1 := sn_bd x (i := i - 1) fun j hj => hlt j (by omega)
   have a2 := hlt (i - 1) (by omega)
   omega
  have hup : ∀ u a, (sf x a).e < (sf x (a + 1 + u)).e := by
   intro u
   induction u with
   | zero =>
    intro a
    show se x (a + 1) < se x (a + 1 + 1)
    rw [se.eq_2 x (a + 1)]
    omega
   | succ u ih =>
    intro a
    have := ih a
    have h5 : se x (a + 1 + u + 1 + 1) = se x (a + 1 + u + 1) + (1 + (x (a + 1 + u + 1)).b 0 % 4 % 3) := rfl
    show se x (a + 1) < se x (a + 1 + u + 1 + 1)
    have h6 : se x (a + 1) < se x (a + 1 + u + 1) := this
    omega
  refine ⟨⟨hi1, hi8, fun j hj => ?_, fun j hj => ?_, fun j hj => ?_, fun j hj => ?_, fun a b hab hb => ?_⟩, fun j hj => ?_, fun j hj => ?_, fun _ _ => rfl, fun _ _ => rfl, ?_⟩
  ·show 0 ≤ se x (j + 1)
   have := (se_bd x (j + 1)).1; omega
  ·show se x (j + 1) ≤ 100
   have := (se_bd x (j + 1)).2; omega
  ·show 1 ≤ 1 + (x j).b 1 % mn3 (8 - sn x j)
   have := dm_bd (x j) (r := 8 - sn x j) (by have := hlt j hj; omega); omega
  ·show 1 + (x j).b 1 % mn3 (8 - sn x j) ≤ 8
   have := dm_bd (x j) (r := 8 - sn x j) (by have := hlt j hj; omega); omega
  ·have := hup (b - a - 1) a
   rwa [show a + 1 + (b - a - 1) = b by omega] at this
  ·show se x (j + 1) ≤ 60
   have := (se_bd x (j + 1)).2; omega
  ·show 1 - 2 * ((x j).b 2 % 2) = 1 ∨ 1 - 2 * ((x j).b 2 % 2) = -1
   omega
  ·rw [dsm_sn]
   exact (sn_bd x hlt).2
theorem sc_last (x : Nat → By) (m : Nat) : (scF x m (scN x m - 1)).e ≤ 23 := by
 have H := scOdd x m
 by_cases hm : m = 0
 ·unfold scF
  rw [if_pos hm]
  show (0 : Int) ≤ 23
  omega
 ·have h8 := H.n8
  have h1 := H.n1
  unfold scF
  rw [if_neg hm]
  show se x (scN x m - 1 + 1) ≤ 23
  have := (se_bd x (scN x m - 1 + 1)).2
  omega
set_option maxHeartbeats 1000000 in
theorem slist (En : Ev) (pk : Int) (x : Nat → By) (m : Nat) (hm : m ≤ 20) : Fn Tryz.prog En 43 [aggP [ex (.int .u8 pk), slc 5 (rows (bys x) m) m], ex (.int .i64 8), ex (.bool false)] (slc 5 (rows (ccs (scF x m)) (scN x m)) (scN x m)) := by
 refine fn_of_body Tryz.func43 rfl Tryz.ntmps43 rfl ?_
 intro w0 h0
 refine js (jr (jB jj jj jj (ja jj (jn (js (jr (ja jj (jn (js (jr (ja jj (ja jj (jn (js (js (jr (jF jj jj (jl jj jj jj (jE jj (jm jj (jn (jb ?_))))))))))))))))))))))
 refine WpD.loop (α := {i : Nat // i ≤ m ∧ ∀ j, j < i → j < m ∧ sn x j < 8}) (fun i => ⟨[(1, .one (ex (.int .i64 8))), (2, .one (ex (.bool false))), (7, .app 507 5 i.1), (8, .one (ex (.int .i64 (se x i.1)))), (9, .one (ex (.int .i64 (sn x i.1)))), (14, .one (slc 5 (rows (bys x) m) m)), (15, .one (ex (.int .i64 (m : Int)))), (16, .one (ex (.int .i64 (i.1 : Int))))], [(507, rows (ccs (sf x)) i.1), (757, [])]⟩) (fun i => m - i.1) ⟨0, Nat.zero_le _, fun j hj => by omega⟩ ?_ ?_
 ·refine Sub.mk ?_ ?_ <;> repeat (first | exact trivial | refine jv jj ?_ | refine jy jj ?_ | refine jw jj (js0 jj) ?_ | refine jz ?_ | refine jw jj ⟨js0 jj, js0 jj⟩ ?_ | refine jx jj ⟨js0 jj, js0 jj⟩ ?_ | refine ⟨⟨_, jj, PLe.refl _⟩, trivial, ?_⟩)
 rintro ⟨i, hi, hc⟩
 dsimp only at hi hc ⊢
 have hb := sn_bd x (i := i) fun j hj => (hc j hj).2
 have hse := se_bd x i
 have w9 := wS i (by omega)
 have hlen := rows_len (ccs_len (sf x)) i
 by_cases hlt : i < m
 ·have hq : ((rows (bys x) m).drop (i * 5)).take 5 = byc (x i) := rows_get (bys_len x) hlt
  by_cases h8 : sn x i < 8
  ·have a1 := (x i).lo 0
   have a2 := (x i).hi 0
   have hd := dm_bd (x i) (r := 8 - sn x i) (by omega)
   have w1 : IntKind.i64.wrap ((x i).b 0) = (x i).b 0 := w64 (by omega) (by omega)
   have w2 : ((x i).b 0).tmod 4 = (x i).b 0 % 4 := Int.tmod_eq_emod_of_nonneg a1
   have w3 : ((x i).b 0 % 4).tmod 3 = (x i).b 0 % 4 % 3 := Int.tmod_eq_emod_of_nonneg (by omega)
   have w4 : IntKind.i64.wrap (1 + (x i).b 0 % 4 % 3) = 1 + (x i).b 0 % 4 % 3 := w64 (by omega) (by omega)
   have w5 : IntKind.i64.wrap (se x i + (1 + (x i).b 0 % 4 % 3)) = se x (i + 1) := w64 (by omega) (by omega)
   have w6 : IntKind.i64.wrap (8 - sn x i) = 8 - sn x i := w64 (by omega) (by omega)
   have w7 : IntKind.i64.wrap (sn x i + (1 + (x i).b 1 % mn3 (8 - sn x i))) = sn x (i + 1) := w64 (by omega) (by omega)
   have C1 := scons En (x i) (se x (i + 1)) (8 - sn x i) (by omega) (by omega)
   have hr : rows (ccs (sf x)) i ++ coc (sf x i) = rows (ccs (sf x)) (i + 1) := (rows_succ (ccs (sf x)) i).symm
   have hc' : ∀ j, j < i + 1 → j < m ∧ sn x j < 8 := fun j hj => by
    rcases Nat.lt_or_ge j i with h | h
    ·exact hc j h
    ·rw [show j = i by omega]; exact ⟨hlt, h8⟩
   refine js (jr (jS (bLt jj jj) (jn (js (jt jj (jp (js (jb (js (jr (jS (rc_indexS jj jj hlt hq) (jS (rc_loadR jj jj jj) (jA jj jj jj (jP jj jj jj jj (jn (js (js (jr (jm jj (jm jj (jS (bHf jj jj) (jn (jf jj (jp (js (jr (jm jj (jS (ru_indexArr (i := 0) jj jj (by decide) jj) (jl jj jj jj (jS (bCv jj w1) (jS (bRe jj jj w2) (jS (bRe jj jj w3) (jS (bAd jj jj w4) (jS (bAd jj jj w5) (ja jj (jn (js (jr (jL jj jj jj (jm jj (jm jj (jm jj (jS (bSu jj jj w6) (jm jj (jS (ru_call C1 ⟨jj, jj, jj, jj, trivial⟩) (jA jj jj jj (jP jj jj jj jj (jn ?_))))))))))))))))))))))))))))))))))))))))))))))))
   refine js (jr (jm jj (jF jj jj (jl jj jj jj (jS (bAd jj jj w7) (ja jj (jn (jr (jm jj (jL jj jj jj (jS (rc_buildR (ps := [(_, _)]) ⟨jj, Part.c jj, trivial⟩ jj jj jj) (RG.SW (LT.plain jj (ru_appendA 545 jj jj hlen jj (by omega) (by omega) jj jj jj jj jj hr)) jj (ja jj (jn (jr (jS (bAd jj jj w9) (jm jj (jn ?_))))))))))))))))))
   refine ⟨⟨i + 1, by omega, hc'⟩, ?_, by dsimp only; omega⟩
   refine Sub.ren 507 545 rfl ?_ ?_ rfl
   ·repeat (first | exact trivial | refine ⟨.inl ⟨⟨_, rfl, PLe.refl _⟩, trivial, trivial⟩, ?_⟩ | refine ⟨.inr ⟨_, _, rfl, .inl rfl, ⟨Option.some_ne_none _, Option.some_ne_none _⟩⟩, ?_⟩ | refine ⟨.inl ⟨⟨_, rfl, rfl⟩, Option.some_ne_none _, ⟨(by decide), (by decide)⟩⟩, ?_⟩ | refine ⟨.inl ⟨⟨_, rfl, rfl⟩, ⟨Option.some_ne_none _, Option.some_ne_none _⟩, ⟨(by decide), (by decide), (by decide), (by decide)⟩⟩, ?_⟩ | refine ⟨.inl ⟨⟨_, rfl, rfl⟩, clo_live (Option.some_ne_none _) (Option.some_ne_none _), clo_avoid (by decide) (by decide) (by decide) (by decide)⟩, ?_⟩ | refine ⟨.inr ⟨_, _, rfl, .inr ⟨(by omega), rfl⟩, Option.some_ne_none _⟩, ?_⟩)
   ·repeat (first | exact trivial | refine ⟨.inr ⟨(by decide), .inr rfl⟩, ?_⟩ | refine ⟨.inl ⟨rfl, _, rfl, PsLe.refl _⟩, ?_⟩ | refine ⟨.inr ⟨(by decide), .inl ⟨(by decide), _, rfl, PsLe.refl _⟩⟩, ?_⟩)
  ·have hn := cntF_eq (x := x) (m := m) (i := i) (fun h => h8 h.2) (u := m) (k := 0) (by omega) (by omega) hc
   have hm0 : m ≠ 0 := by omega
   have e1 : scN x m = i := by unfold scN; rw [if_neg hm0]; exact hn
   have e2 : scF x m = sf x := by unfold scF; rw [if_neg hm0]
   rw [e1, e2]
   refine js (jr (jS (bLt jj jj) (jn (js (jt jj (jp (js (jb (js (jr (jS (rc_indexS jj jj hlt hq) (jS (rc_loadR jj jj jj) (jA jj jj jj (jP jj jj jj jj (jn (js (js (jr (jm jj (jm jj (jS (bHt jj jj) (jn (jt jj (je (js (js (jr (jm jj (jS (bEf jj jj) (jn (jf jj (jp (js ?_)))))))))))))))))))))))))))))))))
   refine WpD.sub (τ := ⟨[(7, .one (slc 5 (rows (ccs (sf x)) i) i))], []⟩) ?_ ?_
   ·refine Sub.pub 507 rfl rfl ⟨.inr (.inr (.inl ⟨_, _, _, rfl, rfl, hlen, PLe.refl _⟩)), trivial⟩ trivial rfl
   repeat (first | refine js ?_ | refine jb ?_)
   refine jr (jm jj (ja jj (jn (ji ?_))))
   exact ret1 rfl (.tmp rfl) (PLe.refl _)
 ·have him : i = m := by omega
  have hn := cntF_eq (x := x) (m := m) (i := i) (fun h => hlt h.1) (u := m) (k := 0) (by omega) (by omega) hc
  by_cases hm0 : m = 0
  ·have hi0 : i = 0 := by omega
   subst hi0
   have e1 : scN x m = 1 := by unfold scN; rw [if_pos hm0]
   have e2 : scF x m = fun _ => ⟨0, 1, 1, false, 0⟩ := by unfold scF; rw [if_pos hm0]
   rw [e1, e2]
   have C1 := scons En ⟨fun _ => 0, fun _ => by omega, fun _ => by omega⟩ 0 1 (by omega) (by omega)
   have hsn : sn x 0 = 0 := rfl
   have hlen0 : (rows (ccs (sf x)) 0).length = 0 * 5 := hlen
   have hr : rows (ccs (sf x)) 0 ++ coc ⟨0, 1 + 0 % mn3 1, 1 - 2 * (0 % 2), false, 0⟩ = rows (ccs (fun _ => ⟨0, 1, 1, false, 0⟩)) 1 := rfl
   refine js (jr (jS (bLf jj jj) (jn (js (jf jj (je (js (js (jr (jm jj (jS (bEt jj jj) (jn (jt jj (jr (jm jj (jS (ru_buildArr (ps := []) trivial jj) (jm jj (jS (ru_call C1 ⟨jj, jj, jj, jj, trivial⟩) (jS (rc_buildR (ps := [(_, _)]) ⟨jj, Part.c jj, trivial⟩ jj jj jj) (RG.SW (LT.plain jj (ru_appendA 554 jj jj hlen0 jj (by omega) (by omega) jj jj jj jj jj hr)) jj (ja jj (jn (js ?_)))))))))))))))))))))))
   refine WpD.sub (τ := ⟨[(7, .one (slc 5 (rows (ccs (fun _ => ⟨0, 1, 1, false, 0⟩)) 1) 1))], []⟩) ?_ ?_
   ·refine Sub.pub 554 rfl rfl ⟨.inr (.inr (.inl ⟨_, _, _, rfl, rfl, rfl, PLe.refl _⟩)), trivial⟩ trivial rfl
   repeat (first | refine js ?_ | refine jb ?_)
   refine jr (jm jj (ja jj (jn (ji ?_))))
   exact ret1 rfl (.tmp rfl) (PLe.refl _)
  ·have e1 : scN x m = i := by unfold scN; rw [if_neg hm0]; exact hn
   have e2 : scF x m = sf x := by unfold scF; rw [if_neg hm0]
   rw [e1, e2]
   have hpos : sn x i ≠ 0 := by omega
   refine js (jr (jS (bLf jj jj) (jn (js (jf jj (je (js (js (jr (jm jj (jS (bEf jj jj) (jn (jf jj (jp (js ?_)))))))))))))))
   refine WpD.sub (τ := ⟨[(7, .one (slc 5 (rows (ccs (sf x)) i) i))], []⟩) ?_ ?_
   ·refine Sub.pub 507 rfl rfl ⟨.inr (.inr (.inl ⟨_, _, _, rfl, rfl, hlen, PLe.refl _⟩)), trivial⟩ trivial rfl
   repeat (first | refine js ?_ | refine jb ?_)
   refine jr (jm jj (ja jj (jn (ji ?_))))
   exact ret1 rfl (.tmp rfl) (PLe.refl _)
theorem slocal (En : Ev) (pk : Int) (x : Nat → By) (m : Nat) (hm : m ≤ 20) (k1 : 0 ≤ pk) (k2 : pk ≤ 255) : Fn Tryz.prog En 41 [aggP [ex (.int .u8 pk), slc 5 (rows (bys x) m) m], ex (.int .i64 8)] (locP (od8 (pk % 8).toNat : Int) (scF x m) (scN x m)) := by
 have C1 := fodd En pk k1 k2
 have C2 := slist En pk x m hm
 unfold locP
 refine fn_of_body Tryz.func41 rfl Tryz.ntmps41 rfl ?_
 intro w0 h0
 refine js (jr (jB jj jj jj (jA jj jj jj (jn (js (jr (jF jj jj (jl jj jj jj (jS (ru_call C1 ⟨jj, trivial⟩) (jL jj jj jj (jm jj (jS (ru_call C2 ⟨jj, jj, jj, trivial⟩) (jS (ru_build (ps := [(_, _), (_, _)]) ⟨jj, Part.c jj, jj, Part.c jj, trivial⟩ jj) (jP jj jj jj jj (jn (ji ?_))))))))))))))))
 exact ret1 rfl (.cell rfl rfl CRow.ok rfl) (PLe.refl _)
end Go.Proofs.YtdieokoenhncfaaGreatDoor
/- Groups of indices: train.collect. -/
namespace Go.Proofs.YtdieokoenhncfaaGreatDoor
open Go.RowKit Limb
instance cslice_ints1 : CSlice Tryz.prog 103 3 := ⟨Tryz.underlying103⟩
instance celem_ints1 : CElem Tryz.prog 103 3 1 := ⟨Tryz.underlying103, by kernel_rfl⟩
instance cone_ints1 : COne Tryz.prog 103 := ⟨⟨_, Tryz.underlying103, rfl, by kernel_rfl⟩⟩
instance crowz_int1 : CRowZ Tryz.prog 3 1 [.int .i64 0] 8 := ⟨by kernel_rfl, rfl, rfl⟩
instance cslice_intss : CSlice Tryz.prog 101 103 := ⟨Tryz.underlying101⟩
instance celem_intss : CElem Tryz.prog 101 103 1 := ⟨Tryz.underlying101, by kernel_rfl⟩
instance cone_intss : COne Tryz.prog 101 := ⟨⟨_, Tryz.underlying101, rfl, by kernel_rfl⟩⟩
instance crowz_ints1 : CRowZ Tryz.prog 103 1 [.slice none 0 0] 24 := ⟨by kernel_rfl, rfl, rfl⟩
instance crow_grouping : CRow Tryz.prog 148 2 := ⟨⟨_, Tryz.underlying148, rfl, by kernel_rfl⟩⟩
instance cfield_grouping0 : CField Tryz.prog 148 0 0 := ⟨⟨_, _, Tryz.underlying148, rfl, rfl, by kernel_rfl⟩⟩
instance cfield_grouping1 : CField Tryz.prog 148 1 1 := ⟨⟨_, _, Tryz.underlying148, rfl, rfl, by kernel_rfl⟩⟩
theorem zero_grouping : ZeroOf Tryz.prog 148 [.nilFunc, .nilFunc] := ⟨by kernel_rfl, by simp [Value.oneCell']⟩
instance czero_grouping : CZero Tryz.prog 148 [.nilFunc, .nilFunc] := ⟨zero_grouping⟩
instance cstruct_grouping : CStruct Tryz.prog 148 [(0, 1), (1, 1)] [.nilFunc, .nilFunc] := ⟨⟨zero_grouping, _, Tryz.underlying148, fun _ => by kernel_rfl⟩⟩
instance cone_fib : COne Tryz.prog 145 := ⟨⟨_, Tryz.underlying145, rfl, by kernel_rfl⟩⟩
def ixP (l : List Nat) : List Pd := l.map fun (i : Nat) => ex (.int .i64 (i : Int))
def gP (l : List Nat) : Pd := slc 1 (ixP l) l.length
def groupsP (G : List (List Nat)) : Pd := slc 1 (G.map gP) G.length
theorem ixP_len (l : List Nat) : (ixP l).length = l.length * 1 := by unfold ixP; simp
def grps (b j : Nat → Bool) : Nat → List (List Nat) × List Nat
 | 0 => ([], [])
 | i + 1 => if b i = false then grps b j i else if 0 < i ∧ b (i - 1) = true ∧ j i = true then ((grps b j i).1, (grps b j i).2 ++ [i]) else ((if (grps b j i).2 = [] then (grps b j i).1 else (grps b j i).1 ++ [(grps b j i).2]), [i])
def allG (x : List (List Nat) × List Nat) : List (List Nat) := if x.2 = [] then x.1 else x.1 ++ [x.2]
theorem grps_ne {b j : Nat → Bool} {i : Nat} (h : b i = true) : (grps b j (i + 1)).2 ≠ [] := by
 rw [grps, if_neg (by rw [h]; decide)]
 split
 ·simp
 ·simp
theorem grps_first {b j : Nat → Bool} : ∀ {i : Nat}, (grps b j i).2 = [] → (grps b j i).1 = []
 | 0, _ => rfl
 | i + 1, h => by
  rw [grps] at h ⊢
  split
  ·rename_i hb
   rw [if_pos hb] at h
   exact grps_first h
  ·rename_i hb
   rw [if_neg hb] at h
   split at h
   ·simp at h
   ·simp at h
def gcs (I : List (List Nat)) (l : List Nat) (blk cap : Nat) : List Pd := I.map gP ++ (match l with | [] => [] | _ :: _ => [ex (gvl blk l.length cap)])
theorem gcs_len (I : List (List Nat)) (l : List Nat) (blk cap : Nat) : (gcs I l blk cap).length = (allG (I, l)).length * 1 := by
 unfold gcs allG
 cases l with
 | nil => simp
 | cons a t => simp
theorem grps_bd (b j : Nat → Bool) : ∀ i, (allG (grps b j i)).length ≤ i ∧ (grps b j i).2.length ≤ i
 | 0 => by simp [grps, allG]
 | i + 1 => by
  obtain ⟨h1, h2⟩ := grps_bd b j i
  rw [grps]
  split
  ·omega
  ·split
   ·refine ⟨?_, by simp; omega⟩
    unfold allG at h1 ⊢
    rw [if_neg (by simp)]
    split at h1
    ·simp; omega
    ·simp at h1 ⊢; omega
   ·refine ⟨?_, by simp⟩
    show (allG (allG (grps b j i), [i])).length ≤ _
    generalize allG (grps b j i) = A at h1
    unfold allG
    rw [if_neg (by simp)]
    simp; omega
instance cbody132 : CBody Tryz.prog 132 := ⟨⟨_, Tryz.func132, rfl, by rfl⟩⟩
set_option maxHeartbeats 4000000 in
theorem tcollect (En : Ev) (n : Nat) (hn : n ≤ 20) (fb fj : FuncId) [CBody Tryz.prog fb] [CBody Tryz.prog fj] (cb cj : List (List Pd)) (b j : Nat → Bool)
  (hb : ∀ i, i < n → Fn Tryz.prog En fb ([ex (.int .i64 (i : Int))] ++ cb.map cpR) (ex (.bool (b i))))
  (hj : ∀ i, i < n → 0 < i → Fn Tryz.prog En fj ([ex (.int .i64 (i : Int))] ++ cj.map cpR) (ex (.bool (j i)))) :
  Fn Tryz.prog En 132 [ex (.int .i64 (n : Int)), aggP [cl fb cb, cl fj cj]] (groupsP (allG (grps b j n))) := by
 refine fn_of_body Tryz.func132 rfl Tryz.ntmps132 rfl ?_
 intro w0 h0
 refine js (jr (jB jj jj jj (ja jj (jn (js (jr (ja jj (jn (js (js (jr (jm jj (jm jj (jn (jb ?_)))))))))))))))
 refine WpD.sub (τ := ⟨[(3, .ptr 3 0), (5, .app 505 1 0), (8, .one (ex (.int .i64 (n : Int)))), (9, .one (ex (.int .i64 ((0 : Nat) : Int))))], [(3, [cl fb cb, cl fj cj]), (505, []), (755, []), (543, []), (793, [])]⟩) ?_ ?_
 ·refine Sub.mk ?_ ?_ <;> repeat (first | exact trivial | refine jv jj ?_ | refine jy jj ?_ | refine jw jj (js0 jj) ?_ | refine jz ?_ | refine jw jj ⟨js0 jj, js0 jj⟩ ?_ | refine jx jj ⟨js0 jj, js0 jj⟩ ?_ | refine ⟨⟨_, jj, PLe.refl _⟩, trivial, ?_⟩)
 refine WpD.pin (t := 0) (b := 793) rfl (Option.some_ne_none _) fun xx0 => ?_
 refine WpD.pin (t := 1) (b := 543) rfl (Option.some_ne_none _) fun blk0 => ?_
 refine WpD.loop (α := {q : Nat × Nat × Nat × Nat // q.1 ≤ n ∧ (0 < (grps b j q.1).2.length → (grps b j q.1).2.length ≤ q.2.2.1 ∧ q.2.2.1 ≤ maxLen ∧ q.2.2.2 = q.2.2.1 * 1)}) (fun q => ⟨[(0, .pin 793 q.1.2.2.2), (1, .pin 543 q.1.2.1), (3, .ptr 3 0), (5, .app 505 1 (allG (grps b j q.1.1)).length), (8, .one (ex (.int .i64 (n : Int)))), (9, .one (ex (.int .i64 (q.1.1 : Int))))], [(3, [cl fb cb, cl fj cj]), (505, gcs (grps b j q.1.1).1 (grps b j q.1.1).2 q.1.2.1 q.1.2.2.1), (755, []), (543, ixP (grps b j q.1.1).2), (793, [])]⟩) (fun q => n - q.1.1) ⟨(0, blk0, 0, xx0), Nat.zero_le _, fun h => absurd h (Nat.lt_irrefl 0)⟩ ?_ ?_
 ·dsimp only
  refine Sub.mk ?_ ?_ <;> repeat (first | exact trivial | refine jv jj ?_ | refine jy jj ?_ | refine jw jj (js0 jj) ?_ | refine jz ?_ | refine jw jj ⟨js0 jj, js0 jj⟩ ?_ | refine jx jj ⟨js0 jj, js0 jj⟩ ?_ | refine ⟨⟨_, jj, PLe.refl _⟩, trivial, ?_⟩)
 rintro ⟨⟨i, blk, cap, xx⟩, hi, hcap⟩
 dsimp only at hi hcap ⊢
 by_cases hlt : i < n
 ·have w1 := wS i (by omega)
  have B1 := hb i hlt
  cases hbi : b i with
  | false =>
   have e1 : grps b j (i + 1) = grps b j i := by rw [grps, if_pos hbi]
   rw [hbi] at B1
   refine js (jr (jS (bLt jj jj) (jn (js (jt jj (jp (js (jb (js (jr (jm jj (ja jj (jn (js (js (jr (jF jj jj (jl jj jj jj (jm jj (jS (rc_callV jj B1 ⟨jj, trivial⟩) (jS (bNo jj) (jn (jt jj (je (jr (jS (bAd jj jj w1) (jm jj (jn ?_))))))))))))))))))))))))))))
   refine ⟨⟨(i + 1, blk, cap, xx), by dsimp only; omega, by dsimp only; rw [e1]; exact hcap⟩, ?_, by dsimp only; omega⟩
   dsimp only
   rw [e1]
   refine Sub.mk ?_ ?_ <;> repeat (first | exact trivial | refine jv jj ?_ | refine jy jj ?_ | refine jw jj (js0 jj) ?_ | refine jz ?_ | refine jw jj ⟨js0 jj, js0 jj⟩ ?_ | refine jx jj ⟨js0 jj, js0 jj⟩ ?_ | refine ⟨⟨_, jj, PLe.refl _⟩, trivial, ?_⟩)
  | true =>
   rw [hbi] at B1
   obtain ⟨g1, g2⟩ := grps_bd b j i
   refine js (jr (jS (bLt jj jj) (jn (js (jt jj (jp (js (jb (js (jr (jm jj (ja jj (jn (js (js (jr (jF jj jj (jl jj jj jj (jm jj (jS (rc_callV jj B1 ⟨jj, trivial⟩) (jS (bNo jj) (jn (jf jj (jp ?_))))))))))))))))))))))))
   refine WpD.cut (α := {v : Bool // v = (decide (0 < i) && b (i - 1) && j i)}) (fun v => ⟨[(0, .pin 793 xx), (1, .pin 543 blk), (3, .ptr 3 0), (5, .app 505 1 (allG (grps b j i)).length), (6, .one (ex (.int .i64 (i : Int)))), (8, .one (ex (.int .i64 (n : Int)))), (9, .one (ex (.int .i64 (i : Int)))), (31, .one (ex (.bool v.1)))], [(3, [cl fb cb, cl fj cj]), (505, gcs (grps b j i).1 (grps b j i).2 blk cap), (755, []), (543, ixP (grps b j i).2), (793, [])]⟩) ?_ ?_
   ·by_cases hi0 : i = 0
    ·repeat (first | refine js ?_ | refine jb ?_)
     refine jr (jm jj (jS (bGf jj jj (by omega)) (jm jj ?_)))
     first | refine jg (ru_fieldAddr jj jj) ?_ | refine jk ?_
     first | refine jg (ru_load1 jj jj jj) ?_ | refine jk ?_
     first | refine jg (rt_move jj) ?_ | refine jk ?_
     first | refine jg (rt_bin jj jj (fun w => run_subi w _ _ _ _ _ _)) ?_ | refine jk ?_
     first | refine jg (ru_callV jj missing_contract ⟨jj, trivial⟩) ?_ | refine jk ?_
     first | refine jq jj jj ?_ | refine jQ jj jj ?_
     refine jm jj ?_
     first | refine jg (ru_fieldAddr jj jj) ?_ | refine jk ?_
     first | refine jg (ru_load1 jj jj jj) ?_ | refine jk ?_
     first | refine jg (rt_move jj) ?_ | refine jk ?_
     first | refine jg (ru_callV jj missing_contract ⟨jj, trivial⟩) ?_ | refine jk ?_
     first | refine jq jj jj ?_ | refine jQ jj jj ?_
     refine jn ?_
     refine ⟨⟨false, by rw [decide_eq_false (show ¬ 0 < i by omega)]; rfl⟩, ?_⟩
     refine Sub.mk ?_ ?_ <;> repeat (first | exact trivial | refine jv jj ?_ | refine jy jj ?_ | refine jw jj (js0 jj) ?_ | refine jz ?_ | refine jw jj ⟨js0 jj, js0 jj⟩ ?_ | refine jx jj ⟨js0 jj, js0 jj⟩ ?_ | refine ⟨⟨_, jj, PLe.refl _⟩, trivial, ?_⟩)
    ·have w2 : IntKind.i64.wrap ((i : Int) - 1) = ((i - 1 : Nat) : Int) := by rw [w64 (by omega) (by omega)]; omega
     have B2 := hb (i - 1) (by omega)
     cases hb2 : b (i - 1) with
     | false =>
      rw [hb2] at B2
      repeat (first | refine js ?_ | refine jb ?_)
      refine jr (jm jj (jS (bGt jj jj (by omega)) (jm jj ?_)))
      first | refine jg (ru_fieldAddr jj jj) ?_ | refine jk ?_
      first | refine jg (ru_load1 jj jj jj) ?_ | refine jk ?_
      first | refine jg (rt_move jj) ?_ | refine jk ?_
      first | refine jg (bSu jj jj w2) ?_ | refine jk ?_
      first | refine jg (rc_callV jj B2 ⟨jj, trivial⟩) ?_ | refine jk ?_
      first | refine jq jj jj ?_ | refine jQ jj jj ?_
      refine jm jj ?_
      first | refine jg (ru_fieldAddr jj jj) ?_ | refine jk ?_
      first | refine jg (ru_load1 jj jj jj) ?_ | refine jk ?_
      first | refine jg (rt_move jj) ?_ | refine jk ?_
      first | refine jg (ru_callV jj missing_contract ⟨jj, trivial⟩) ?_ | refine jk ?_
      first | refine jq jj jj ?_ | refine jQ jj jj ?_
      refine jn ?_
      refine ⟨⟨false, by simp⟩, ?_⟩
      refine Sub.mk ?_ ?_ <;> repeat (first | exact trivial | refine jv jj ?_ | refine jy jj ?_ | refine jw jj (js0 jj) ?_ | refine jz ?_ | refine jw jj ⟨js0 jj, js0 jj⟩ ?_ | refine jx jj ⟨js0 jj, js0 jj⟩ ?_ | refine ⟨⟨_, jj, PLe.refl _⟩, trivial, ?_⟩)
     | true =>
      rw [hb2] at B2
      have J2 := hj i hlt (by omega)
      repeat (first | refine js ?_ | refine jb ?_)
      refine jr (jm jj (jS (bGt jj jj (by omega)) (jm jj ?_)))
      first | refine jg (ru_fieldAddr jj jj) ?_ | refine jk ?_
      first | refine jg (ru_load1 jj jj jj) ?_ | refine jk ?_
      first | refine jg (rt_move jj) ?_ | refine jk ?_
      first | refine jg (bSu jj jj w2) ?_ | refine jk ?_
      first | refine jg (rc_callV jj B2 ⟨jj, trivial⟩) ?_ | refine jk ?_
      first | refine jq jj jj ?_ | refine jQ jj jj ?_
      refine jm jj ?_
      first | refine jg (ru_fieldAddr jj jj) ?_ | refine jk ?_
      first | refine jg (ru_load1 jj jj jj) ?_ | refine jk ?_
      first | refine jg (rt_move jj) ?_ | refine jk ?_
      first | refine jg (rc_callV jj J2 ⟨jj, trivial⟩) ?_ | refine jk ?_
      first | refine jq jj jj ?_ | refine jQ jj jj ?_
      refine jn ?_
      refine ⟨⟨j i, by rw [decide_eq_true (show 0 < i by omega)]; simp⟩, ?_⟩
      refine Sub.mk ?_ ?_ <;> repeat (first | exact trivial | refine jv jj ?_ | refine jy jj ?_ | refine jw jj (js0 jj) ?_ | refine jz ?_ | refine jw jj ⟨js0 jj, js0 jj⟩ ?_ | refine jx jj ⟨js0 jj, js0 jj⟩ ?_ | refine ⟨⟨_, jj, PLe.refl _⟩, trivial, ?_⟩)
   rintro ⟨v, hv⟩
   dsimp only
   cases v with
   | true =>
    have hv : 0 < i ∧ b (i - 1) = true ∧ j i = true := by simp at hv; exact ⟨hv.1.1, hv.1.2, hv.2⟩
    have hne : (grps b j i).2 ≠ [] := by have := grps_ne (b := b) (j := j) hv.2.1; rwa [show i - 1 + 1 = i by omega] at this
    have e1 : grps b j (i + 1) = ((grps b j i).1, (grps b j i).2 ++ [i]) := by rw [grps, if_neg (by rw [hbi]; decide), if_pos hv]
    generalize grps b j i = G at *
    obtain ⟨I, l⟩ := G
    cases l with
    | nil => exact absurd rfl hne
    | cons a t =>
    have hG : (allG (I, a :: t)).length = I.length + 1 := by unfold allG; simp
    rw [hG] at g1 ⊢
    dsimp only at g2 hcap e1 ⊢
    have g2 : t.length + 1 ≤ i := g2
    have w3 : IntKind.i64.wrap (((I.length + 1 : Nat) : Int) - 1) = ((I.length : Nat) : Int) := by rw [w64 (by omega) (by omega)]; omega
    have hget : (gcs I (a :: t) blk cap)[I.length]? = some (ex (gvl blk (a :: t).length cap)) := by
     unfold gcs
     rw [List.getElem?_append_right (by simp)]
     simp
    have hlen : (ixP (a :: t)).length = (a :: t).length * 1 := ixP_len _
    have hr : ixP (a :: t) ++ [ex (.int .i64 (i : Int))] = ixP ((a :: t) ++ [i]) := by unfold ixP; simp
    repeat (first | refine js ?_ | refine jb ?_)
    refine WpD.condT rfl ?_
    repeat (first | refine js ?_ | refine jb ?_)
    refine jr (jm jj (jS (ru_lenA jj CSlice.ok) (jS (bSu jj jj w3) (ja jj (jn ?_)))))
    repeat (first | refine js ?_ | refine jb ?_)
    refine WpD.seqR ?_
    refine WpS.S rfl rfl (rt_move rfl) rfl ?_
    refine WpS.S rfl rfl (rt_move rfl) rfl ?_
    refine WpS.S rfl rfl (rt_move rfl) rfl ?_
    refine WpS.S rfl rfl (rt_move rfl) rfl ?_
    refine WpS.S rfl rfl (ru_indexA rfl rfl (by omega) (Nat.mul_one I.length)) rfl ?_
    refine WpS.S rfl rfl (ru_load1 rfl rfl hget) rfl ?_
    refine WpS.S rfl rfl (rt_move rfl) rfl ?_
    refine WpS.S rfl rfl (rc_buildR (ps := [(_, _)]) ⟨rfl, Part.c rfl, trivial⟩ rfl rfl rfl) rfl ?_
    refine WpS.sub (Sub.toApp (t := 40) (p := 1) (q := 0) (b := 543) (k := 1) (blk := blk) (len := (a :: t).length) (cap := cap) (x := xx) rfl rfl rfl hcap) ?_
    refine WpS.S rfl rfl (ru_appendA 544 rfl rfl hlen rfl (by omega) (by simp; omega) rfl rfl rfl rfl rfl hr) rfl ?_
    refine WpS.sub (τ := ⟨[(3, .ptr 3 0), (5, .app 505 1 (I.length + 1)), (8, .one (ex (.int .i64 (n : Int)))), (9, .one (ex (.int .i64 (i : Int)))), (35, .app 505 1 (I.length + 1)), (36, .one (ex (.int .i64 ((I.length : Nat) : Int)))), (43, .app 543 1 ((a :: t).length + 1))], [(3, [cl fb cb, cl fj cj]), (505, gcs I (a :: t) blk cap), (755, []), (543, ixP ((a :: t) ++ [i])), (793, [])]⟩) (Sub.ren 543 544 rfl ?_ ?_ rfl) ?_
    ·repeat (first | exact trivial | refine ⟨.inl ⟨⟨_, rfl, PLe.refl _⟩, trivial, trivial⟩, ?_⟩ | refine ⟨.inr ⟨_, _, rfl, .inl rfl, ⟨Option.some_ne_none _, Option.some_ne_none _⟩⟩, ?_⟩ | refine ⟨.inl ⟨⟨_, rfl, rfl⟩, Option.some_ne_none _, ⟨(by decide), (by decide)⟩⟩, ?_⟩ | refine ⟨.inl ⟨⟨_, rfl, rfl⟩, ⟨Option.some_ne_none _, Option.some_ne_none _⟩, ⟨(by decide), (by decide), (by decide), (by decide)⟩⟩, ?_⟩)
    ·repeat (first | exact trivial | refine ⟨.inr ⟨(by decide), .inr rfl⟩, ?_⟩ | refine ⟨.inl ⟨rfl, _, rfl, PsLe.refl _⟩, ?_⟩ | refine ⟨.inr ⟨(by decide), .inl ⟨(by decide), _, rfl, PsLe.refl _⟩⟩, ?_⟩)
    refine WpS.fromApp (t := 43) (p := 1) (q := 0) rfl rfl rfl (by simp) fun blk' cap' xx' hc' => ?_
    have hset : (gcs I (a :: t) blk cap).set I.length (ex (gvl blk' ((a :: t).length + 1) cap')) = gcs I ((a :: t) ++ [i]) blk' cap' := by
     unfold gcs
     rw [List.set_append_right _ _ (by simp)]
     simp
    refine WpS.S rfl rfl (ru_indexA rfl rfl (by omega) (Nat.mul_one I.length)) rfl ?_
    refine WpS.N rfl (ru_set1 rfl rfl rfl (by rw [gcs_len, hG]; omega) hset) rfl ?_
    refine WpS.nil ?_
    repeat (first | refine js ?_ | refine jb ?_)
    refine jr (jS (bAd jj jj w1) (jm jj (jn ?_)))
    refine ⟨⟨(i + 1, blk', cap', xx'), by dsimp only; omega, by dsimp only; rw [e1]; exact fun _ => by simpa using hc'⟩, ?_, by dsimp only; omega⟩
    dsimp only
    rw [e1, show (allG (I, a :: t ++ [i])).length = I.length + 1 by unfold allG; simp]
    refine Sub.mk ?_ ?_ <;> repeat (first | exact trivial | refine jv jj ?_ | refine jy jj ?_ | refine jw jj (js0 jj) ?_ | refine jz ?_ | refine jw jj ⟨js0 jj, js0 jj⟩ ?_ | refine jx jj ⟨js0 jj, js0 jj⟩ ?_ | refine ⟨⟨_, jj, PLe.refl _⟩, trivial, ?_⟩)
   | false =>
    have hv : ¬ (0 < i ∧ b (i - 1) = true ∧ j i = true) := by rintro ⟨h1, h2, h3⟩; rw [h2, h3, decide_eq_true h1] at hv; cases hv
    have e1 : grps b j (i + 1) = (allG (grps b j i), [i]) := by rw [grps, if_neg (by rw [hbi]; decide), if_neg hv]; rfl
    repeat (first | refine js ?_ | refine jb ?_)
    refine WpD.condF rfl ?_
    refine WpD.sub (τ := ⟨[(3, .ptr 3 0), (5, .app 505 1 (allG (grps b j i)).length), (6, .one (ex (.int .i64 (i : Int)))), (8, .one (ex (.int .i64 (n : Int)))), (9, .one (ex (.int .i64 (i : Int))))], [(505, (allG (grps b j i)).map gP), (3, [cl fb cb, cl fj cj]), (755, [])]⟩) ?_ ?_
    ·have hfst := grps_first (b := b) (j := j) (i := i)
     generalize grps b j i = G at *
     obtain ⟨I, l⟩ := G
     cases l with
     | nil =>
      have hI : I = [] := hfst rfl
      subst hI
      refine Sub.mk ?_ ?_ <;> repeat (first | exact trivial | refine jv jj ?_ | refine jy jj ?_ | refine jw jj (js0 jj) ?_ | refine jz ?_ | refine jw jj ⟨js0 jj, js0 jj⟩ ?_ | refine jx jj ⟨js0 jj, js0 jj⟩ ?_ | refine ⟨⟨_, jj, PLe.refl _⟩, trivial, ?_⟩)
     | cons a t =>
      have hA : allG (I, a :: t) = I ++ [a :: t] := by unfold allG; simp
      obtain ⟨q1, q2, _⟩ := hcap (by simp)
      have hm : (I ++ [a :: t]).map gP = I.map gP ++ [slc 1 (ixP (a :: t)) (a :: t).length] := by simp [gP]
      rw [hA, hm]
      refine Sub.pubLast (b := 543) (d := 505) (p := 1) (k := 1) (len := (a :: t).length) (cap := cap) (blk := blk) (L := I.map gP) (sl := [(3, .ptr 3 0), (5, .app 505 1 (I ++ [a :: t]).length), (6, .one (ex (.int .i64 (i : Int)))), (8, .one (ex (.int .i64 (n : Int)))), (9, .one (ex (.int .i64 (i : Int))))]) (bx0 := [(3, [cl fb cb, cl fj cj]), (505, I.map gP ++ [ex (gvl blk (a :: t).length cap)]), (755, [])]) rfl rfl (ixP_len _) rfl rfl (by simp) q1 q2 ?_ rfl ?_ |>.trans ?_
      ·exact ⟨.inl ⟨_, rfl, PsLe.refl _⟩, .inl ⟨_, rfl, PsLe.refl _⟩, .inl ⟨_, rfl, PsLe.refl _⟩, trivial⟩
      ·repeat (first | exact trivial | refine jv rfl ?_ | refine jw rfl (js0 rfl) ?_ | refine jw rfl ⟨js0 rfl, js0 rfl⟩ ?_)
      ·refine Sub.mk ?_ ?_ <;> repeat (first | exact trivial | refine jv jj ?_ | refine jy jj ?_ | refine jw jj (js0 jj) ?_ | refine jz ?_ | refine jw jj ⟨js0 jj, js0 jj⟩ ?_ | refine jx jj ⟨js0 jj, js0 jj⟩ ?_ | refine ⟨⟨_, jj, PLe.refl _⟩, trivial, ?_⟩)
    generalize hA : allG (grps b j i) = A at *
    have hlen : (A.map gP).length = A.length * 1 := by simp
    repeat (first | refine js ?_ | refine jb ?_)
    refine WpD.seqR ?_
    refine WpS.S rfl rfl (rt_move rfl) rfl ?_
    refine WpS.S rfl rfl (rt_move rfl) rfl ?_
    refine WpS.S rfl rfl (ru_buildA 543 (ps := [(_, _)]) ⟨rfl, Part.c rfl, trivial⟩ rfl rfl rfl rfl rfl rfl) rfl ?_
    refine WpS.fromApp (t := 47) (p := 1) (q := 0) rfl rfl rfl (by omega) fun blk' cap' xx' hc' => ?_
    refine WpS.S rfl rfl (rc_buildR (ps := [(_, _)]) ⟨rfl, Part.c rfl, trivial⟩ rfl rfl rfl) rfl ?_
    refine WpS.S rfl rfl (ru_appendA 549 rfl rfl hlen rfl (by omega) (by omega) rfl rfl rfl rfl rfl rfl) rfl ?_
    refine WpS.S rfl rfl (rt_assign rfl) rfl ?_
    refine WpS.sub (τ := ⟨[(0, .pin 793 xx'), (1, .pin 543 blk'), (3, .ptr 3 0), (5, .app 505 1 (A.length + 1)), (8, .one (ex (.int .i64 (n : Int)))), (9, .one (ex (.int .i64 (i : Int))))], [(3, [cl fb cb, cl fj cj]), (505, A.map gP ++ [ex (gvl blk' 1 cap')]), (755, []), (543, [ex (.int .i64 (i : Int))]), (793, [])]⟩) (Sub.ren 505 549 rfl ?_ ?_ rfl) ?_
    ·repeat (first | exact trivial | refine ⟨.inl ⟨⟨_, rfl, PLe.refl _⟩, trivial, trivial⟩, ?_⟩ | refine ⟨.inr ⟨_, _, rfl, .inl rfl, ⟨Option.some_ne_none _, Option.some_ne_none _⟩⟩, ?_⟩ | refine ⟨.inl ⟨⟨_, rfl, rfl⟩, Option.some_ne_none _, ⟨(by decide), (by decide)⟩⟩, ?_⟩ | refine ⟨.inl ⟨⟨_, rfl, rfl⟩, ⟨Option.some_ne_none _, Option.some_ne_none _⟩, ⟨(by decide), (by decide), (by decide), (by decide)⟩⟩, ?_⟩)
    ·repeat (first | exact trivial | refine ⟨.inr ⟨(by decide), .inr rfl⟩, ?_⟩ | refine ⟨.inl ⟨rfl, _, rfl, PsLe.refl _⟩, ?_⟩ | refine ⟨.inr ⟨(by decide), .inl ⟨(by decide), _, rfl, PsLe.refl _⟩⟩, ?_⟩)
    refine WpS.nil ?_
    repeat (first | refine js ?_ | refine jb ?_)
    refine jr (jS (bAd jj jj w1) (jm jj (jn ?_)))
    refine ⟨⟨(i + 1, blk', cap', xx'), by dsimp only; omega, by dsimp only; rw [e1]; exact fun _ => by simpa using hc'⟩, ?_, by dsimp only; omega⟩
    dsimp only
    rw [e1, show (allG (A, [i])).length = A.length + 1 by unfold allG; simp]
    refine Sub.mk ?_ ?_ <;> repeat (first | exact trivial | refine jv jj ?_ | refine jy jj ?_ | refine jw jj (js0 jj) ?_ | refine jz ?_ | refine jw jj ⟨js0 jj, js0 jj⟩ ?_ | refine jx jj ⟨js0 jj, js0 jj⟩ ?_ | refine ⟨⟨_, jj, PLe.refl _⟩, trivial, ?_⟩)
 ·have : i = n := by omega
  subst this
  have hfst := grps_first (b := b) (j := j) (i := i)
  unfold groupsP
  refine js (jr (jS (bLf jj jj) (jn (js (jf jj (je ?_))))))
  refine WpD.sub (τ := ⟨[(5, .one (slc 1 ((allG (grps b j i)).map gP) (allG (grps b j i)).length))], []⟩) ?_ ?_
  ·generalize grps b j i = G at *
   obtain ⟨I, l⟩ := G
   cases l with
   | nil =>
    have hI : I = [] := hfst rfl
    subst hI
    exact Sub.pub 505 rfl rfl ⟨.inr (.inr (.inl ⟨_, _, _, rfl, rfl, rfl, PLe.refl _⟩)), trivial⟩ trivial rfl
   | cons a t =>
    have hA : allG (I, a :: t) = I ++ [a :: t] := by unfold allG; simp
    obtain ⟨q1, q2, _⟩ := hcap (by simp)
    have hm : (I ++ [a :: t]).map gP = I.map gP ++ [slc 1 (ixP (a :: t)) (a :: t).length] := by simp [gP]
    have hl2 : (I.map gP ++ [slc 1 (ixP (a :: t)) (a :: t).length]).length = (I ++ [a :: t]).length * 1 := by simp
    rw [hA, hm]
    refine (Sub.pubLast (b := 543) (d := 505) (p := 1) (k := 1) (len := (a :: t).length) (cap := cap) (blk := blk) (L := I.map gP) (sl := [(5, .app 505 1 (I ++ [a :: t]).length)]) (bx0 := [(505, I.map gP ++ [ex (gvl blk (a :: t).length cap)]), (755, [])]) rfl rfl (ixP_len _) rfl rfl (by simp) q1 q2 ⟨.inl ⟨_, rfl, PsLe.refl _⟩, .inl ⟨_, rfl, PsLe.refl _⟩, trivial⟩ rfl ?_).trans ?_
    ·repeat (first | exact trivial | refine jv rfl ?_ | refine jw rfl (js0 rfl) ?_ | refine jw rfl ⟨js0 rfl, js0 rfl⟩ ?_)
    ·exact Sub.pub 505 rfl rfl ⟨.inr (.inr (.inl ⟨_, _, _, rfl, rfl, hl2, PLe.refl _⟩)), trivial⟩ trivial rfl
  repeat (first | refine js ?_ | refine jb ?_)
  refine jr (jm jj (ja jj (jn (ji ?_))))
  exact ret1 rfl (.tmp rfl) (PLe.refl _)
end Go.Proofs.YtdieokoenhncfaaGreatDoor

/- Bernoulli polynomials: plain, and the program's Poly. -/
import Derived.Test.YtgbiccenhionaaaGreatDoorLd
set_option maxRecDepth 3000
namespace Go.Proofs.YtgbiccenhionaaaGreatDoor
open Go.RowKit Limb Num
instance cbody5 : CBody Tryz.prog 5 := ⟨⟨_, Tryz.func5, rfl, by rfl⟩⟩
/-- The coefficient of x^(k - i). -/
def bco (k i : Nat) : Rat := ((bin k i : Int) : Rat) * bern i
def pvs (k : Nat) (x : Rat) : Nat → Rat
  | 0 => 0
  | i + 1 => pvs k x i + bco k i * x ^ (k - i)
/-- The value of the k-th Bernoulli polynomial. -/
def pv (k : Nat) (x : Rat) : Rat := pvs k x (k + 1)
def hors (k : Nat) (x : Rat) : Nat → Rat
  | 0 => 0
  | i + 1 => hors k x i * x + bco k i
theorem pvs_hors (k : Nat) (x : Rat) : ∀ i, i ≤ k + 1 → pvs k x i = hors k x i * x ^ (k + 1 - i)
  | 0, _ => by simp [pvs, hors]
  | i + 1, h => by
    rw [pvs, hors, pvs_hors k x i (by omega), show k + 1 - i = (k - i) + 1 by omega, show k + 1 - (i + 1) = k - i by omega, Rat.pow_succ]
    grind
theorem pv_hors (k : Nat) (x : Rat) : pv k x = hors k x (k + 1) := by
  unfold pv
  rw [pvs_hors k x (k + 1) (Nat.le_refl _), Nat.sub_self, Rat.pow_zero, Rat.mul_one]
/-- Values of polynomials: the coefficients from the lowest one on. -/
def evA (x : Rat) : List Rat → Rat
  | [] => 0
  | c :: cs => c + x * evA x cs
def addL : List Rat → List Rat → List Rat
  | [], l => l
  | l, [] => l
  | a :: l, b :: m => (a + b) :: addL l m
def negL : List Rat → List Rat
  | [] => []
  | a :: l => (-a) :: negL l
theorem evA_add (x : Rat) : ∀ l m, evA x (addL l m) = evA x l + evA x m
  | [], m => by simp only [addL, evA]; rw [Rat.zero_add]
  | _ :: _, [] => by simp only [addL, evA]; rw [Rat.add_zero]
  | a :: l, b :: m => by simp only [addL, evA]; rw [evA_add x l m]; grind
theorem evA_neg (x : Rat) : ∀ l, evA x (negL l) = -evA x l
  | [] => by simp only [negL, evA]; rfl
  | a :: l => by simp only [negL, evA]; rw [evA_neg x l]; grind
def hc (k : Nat) : Nat → List Rat
  | 0 => []
  | i + 1 => addL [bco k i] (0 :: hc k i)
/-- The same, of x + 1. -/
def hs (k : Nat) : Nat → List Rat
  | 0 => []
  | i + 1 => addL [bco k i] (addL (0 :: hs k i) (hs k i))
/-- The same, of 1 - x. -/
def hm (k : Nat) : Nat → List Rat
  | 0 => []
  | i + 1 => addL [bco k i] (addL (negL (0 :: hm k i)) (hm k i))
theorem hc_ok (k : Nat) (x : Rat) : ∀ i, evA x (hc k i) = hors k x i
  | 0 => rfl
  | i + 1 => by rw [hc, hors, evA_add, ← hc_ok k x i]; simp only [evA]; grind
theorem hs_ok (k : Nat) (x : Rat) : ∀ i, evA x (hs k i) = hors k (x + 1) i
  | 0 => rfl
  | i + 1 => by rw [hs, hors, evA_add, evA_add, ← hs_ok k x i]; simp only [evA]; grind
theorem hm_ok (k : Nat) (x : Rat) : ∀ i, evA x (hm k i) = hors k (1 - x) i
  | 0 => rfl
  | i + 1 => by rw [hm, hors, evA_add, evA_add, evA_neg, ← hm_ok k x i]; simp only [evA]; grind
def mono (k : Nat) : Nat → List Rat
  | 0 => [((k : Int) : Rat)]
  | n + 1 => 0 :: mono k n
theorem mono_ok (k : Nat) (x : Rat) : ∀ n, evA x (mono k n) = ((k : Int) : Rat) * x ^ n
  | 0 => by simp only [mono, evA]; rw [Rat.pow_zero]; grind
  | n + 1 => by simp only [mono, evA]; rw [mono_ok k x n, Rat.pow_succ]; grind
theorem steps_chk : ∀ k : Fin 20, hs (k.1 + 1) (k.1 + 2) = addL (hc (k.1 + 1) (k.1 + 2)) (mono (k.1 + 1) k.1) := by decide +kernel
theorem symm_chk : ∀ k : Fin 21, hm k.1 (k.1 + 1) = if k.1 % 2 = 1 then negL (hc k.1 (k.1 + 1)) else hc k.1 (k.1 + 1) := by decide +kernel
theorem pv_step {k : Nat} (h1 : 1 ≤ k) (h2 : k ≤ 20) (x : Rat) : pv k (x + 1) = pv k x + ((k : Int) : Rat) * x ^ (k - 1) := by
  have h := steps_chk ⟨k - 1, by omega⟩
  simp only at h
  rw [show k - 1 + 1 = k by omega, show k - 1 + 2 = k + 1 by omega] at h
  rw [pv_hors, pv_hors, ← hs_ok, h, evA_add, hc_ok, mono_ok]
theorem pv_symm {k : Nat} (h2 : k ≤ 20) (x : Rat) : pv k (1 - x) = if k % 2 = 1 then -pv k x else pv k x := by
  have h := symm_chk ⟨k, by omega⟩
  simp only at h
  rw [pv_hors, pv_hors, ← hm_ok, h]
  split
  · rw [evA_neg, hc_ok]
  · rw [hc_ok]
theorem pv_zero0 : ∀ k : Fin 21, pv k.1 0 = bern k.1 := by decide +kernel
/-- Sums of powers. -/
def spw (e : Nat) : Nat → Rat
  | 0 => 0
  | i + 1 => spw e i + ((i : Int) : Rat) ^ e
theorem spw_pv {e : Nat} (he : e ≤ 11) : ∀ n : Nat, pv (e + 1) ((n : Int) : Rat) - bern (e + 1) = spw e n * (((e : Int) + 1 : Int) : Rat)
  | 0 => by
    have := pv_zero0 ⟨e + 1, by omega⟩
    simp only at this
    rw [show (((0 : Nat) : Int) : Rat) = 0 from rfl, this, spw]
    grind
  | n + 1 => by
    have h := spw_pv he n
    have h2 := pv_step (k := e + 1) (by omega) (by omega) ((n : Int) : Rat)
    rw [show (((n + 1 : Nat) : Int) : Rat) = ((n : Int) : Rat) + 1 by rw [Int.natCast_add, Rat.intCast_add]; rfl, h2, spw, show e + 1 - 1 = e by omega]
    rw [show (((e + 1 : Nat) : Int) : Rat) = (((e : Int) + 1 : Int) : Rat) from rfl]
    generalize pv (e + 1) ((n : Int) : Rat) = p at *
    generalize (((e : Int) + 1 : Int) : Rat) = c at *
    grind
theorem bco_sz {k i : Nat} (hk : k ≤ 20) (hi : i ≤ k) : Sz 4 (bco k i) := by
  have hb := bin_le ⟨k, by omega⟩ ⟨i, by omega⟩
  dsimp only at hb
  exact szq_mul (sz_z (by omega) (by omega)) (bern_sz (by omega))
theorem pvs_sz {k : Nat} {x : Rat} {b : Nat} (hk : k ≤ 20) (hx : Sz b x) : ∀ {i : Nat}, i ≤ k + 1 → Sz (i * (20 * b + 6) + 1) (pvs k x i)
  | 0, _ => ⟨show zl (0 : Rat).num ≤ _ from Nat.le_trans (by decide) (Nat.le_add_left _ _), show zl (((0 : Rat).den : Nat) : Int) ≤ _ from Nat.le_trans (show _ ≤ 1 by decide) (Nat.le_add_left _ _)⟩
  | i + 1, h => by
    have h1 := pvs_sz hk hx (i := i) (by omega)
    have h2 := szq_mul (bco_sz hk (i := i) (by omega)) (szq_pow hx (k - i))
    have h3 : (k - i) * b ≤ 20 * b := Nat.mul_le_mul_right _ (by omega)
    have e : (i + 1) * (20 * b + 6) = i * (20 * b + 6) + (20 * b + 6) := Nat.succ_mul _ _
    refine (szq_add h1 h2).mono ?_
    omega
def pcells (x : Rat) : Nat → List Pd := fun i => qCells (x ^ i)
theorem pcells_len (x : Rat) (i : Nat) : (pcells x i).length = 4 := rfl
section
variable (En : Ev)
set_option maxHeartbeats 1000000 in
theorem bpoly (k : Nat) (p : RQ) (hk : k ≤ 20) (hp : p.ok) (hx : Sz 1000 p.v) : Fn Tryz.prog En 5 [ex (.int .i64 (k : Int)), qP p] (tupP [qC (pv k p.v), ex (.int .i64 0)]) := by
  have W1 := bwhole En 1 (by omega) (by omega)
  have W0 := bwhole En 0 (by omega) (by omega)
  have N1 := bnumbers En k hk
  have hr0 : qCells ((1 : Int) : Rat) = rows (pcells p.v) 1 := by rw [rows_succ, show rows (pcells p.v) 0 = [] from rfl, List.nil_append]; unfold pcells; rw [Rat.pow_zero]; rfl
  refine fn_of_body Tryz.func5 rfl Tryz.ntmps5 rfl ?_
  intro w0 h0
  repeat (first | refine js ?_ | refine jb ?_)
  refine jr ?_
  refine jT (ru_boxR rfl rfl rfl) ?_
  refine jT (ru_alloc rfl rfl rfl) ?_
  refine ja rfl ?_
  refine RG.nil (by kernel_rfl) ?_
  repeat (first | refine js ?_ | refine jb ?_)
  refine jr ?_
  refine jm rfl ?_
  refine jS (rt_bin_to rfl rfl (fun w => run_lti w _ _ _ _ _ _) (vbool (decide_eq_false (by first | assumption | omega)))) ?_
  refine jm rfl ?_
  refine RG.S0 (LT.run rfl rfl rfl (rt_move rfl)) ?_
  refine RG.S0 (LT.run rfl rfl rfl (rt_bin_to rfl rfl (fun w => run_gti w _ _ _ _ _ _) (vbool (decide_eq_false (by first | assumption | omega))))) ?_
  refine jS (rt_pick_false rfl rfl) ?_
  refine RG.nil (by kernel_rfl) ?_
  repeat (first | refine js ?_ | refine jb ?_)
  refine WpD.condF rfl ?_
  repeat (first | refine js ?_ | refine jb ?_)
  refine WpD.skip ?_
  repeat (first | refine js ?_ | refine jb ?_)
  refine jr ?_
  refine jS (ru_call W1 ⟨rfl, trivial⟩) ?_
  refine RG.SW (LT.plain rfl (ru_buildA 520 (ps := [(_, _)]) ⟨rfl, Part.c rfl, trivial⟩ rfl rfl rfl rfl rfl rfl)) rfl ?_
  refine ja rfl ?_
  refine RG.nil (by kernel_rfl) ?_
  repeat (first | refine js ?_ | refine jb ?_)
  refine jr ?_
  refine jm rfl ?_
  refine jm rfl ?_
  refine RG.nil (by kernel_rfl) ?_
  repeat (first | refine js ?_ | refine jb ?_)
  refine WpD.loop (α := {n : Nat // n ≤ k}) (fun n => ⟨[(0, .one (ex (.int .i64 (k : Int)))), (3, .ptr 3 0), (4, .ptr 4 0), (6, .app 506 4 (n.1 + 1)), (21, .one (ex (.int .i64 (k : Int)))), (22, .one (ex (.int .i64 (n.1 : Int))))], [(506, rows (pcells p.v) (n.1 + 1)), (756, []), (3, p.cells), (4, [ex (.bool false), ex (.slice none 0 0), ex (.bool false), ex (.slice none 0 0)])]⟩) (fun n => k - n.1) ⟨0, by omega⟩ ?_ ?_
  · refine Sub.ren 506 520 rfl ?_ ?_ rfl
    · repeat (first | exact trivial | refine ⟨.inl ⟨⟨_, rfl, PLe.refl _⟩, trivial, trivial⟩, ?_⟩ | refine ⟨.inr ⟨_, _, rfl, .inl rfl, ⟨Option.some_ne_none _, Option.some_ne_none _⟩⟩, ?_⟩ | refine ⟨.inl ⟨⟨_, rfl, rfl⟩, Option.some_ne_none _, ⟨(by decide), (by decide)⟩⟩, ?_⟩ | refine ⟨.inl ⟨⟨_, rfl, rfl⟩, ⟨Option.some_ne_none _, Option.some_ne_none _⟩, ⟨(by decide), (by decide), (by decide), (by decide)⟩⟩, ?_⟩ | refine ⟨.inl ⟨⟨_, rfl, rfl⟩, clo_live (Option.some_ne_none _) (Option.some_ne_none _), clo_avoid (by decide) (by decide) (by decide) (by decide)⟩, ?_⟩ | refine ⟨.inr ⟨_, _, rfl, .inr ⟨(by omega), rfl⟩, Option.some_ne_none _⟩, ?_⟩)
    · exact ⟨.inl ⟨rfl, _, rfl, PsLe.of_eq hr0⟩, .inr ⟨by decide, .inr rfl⟩, .inr ⟨by decide, .inl ⟨by decide, _, rfl, PsLe.refl _⟩⟩, .inr ⟨by decide, .inl ⟨by decide, _, rfl, PsLe.refl _⟩⟩, trivial⟩
  rintro ⟨n, hn⟩
  dsimp only at hn ⊢
  by_cases hlt : n < k
  · have hlen := rows_len (pcells_len p.v) (n + 1)
    have hn1 : n < n + 1 := by omega
    have hq : ((rows (pcells p.v) (n + 1)).drop (n * 4)).take 4 = qCells (p.v ^ n) := rows_get (pcells_len p.v) hn1
    have hk4 : n * 4 + 4 ≤ (rows (pcells p.v) (n + 1)).length := by omega
    have hsz := szq_pow hx n
    have C1 := rmul En (RQ.of (p.v ^ n)) p (RQ.of_ok (hsz.mono (by omega))) hp
    rw [RQ.of_v, ← Rat.pow_succ] at C1
    have hr : rows (pcells p.v) (n + 1) ++ qCells (p.v ^ (n + 1)) = rows (pcells p.v) (n + 1 + 1) := (rows_succ _ _).symm
    have e3 : IntKind.i64.wrap ((n : Int) + 1) = ((n + 1 : Nat) : Int) := by rw [w64 (by omega) (by omega)]; rfl
    repeat (first | refine js ?_ | refine jb ?_)
    refine jr ?_
    refine jS (rt_bin_to rfl rfl (fun w => run_lti w _ _ _ _ _ _) (vbool (decide_eq_true (by first | assumption | omega)))) ?_
    refine RG.nil (by kernel_rfl) ?_
    repeat (first | refine js ?_ | refine jb ?_)
    refine WpD.condT rfl ?_
    repeat (first | refine js ?_ | refine jb ?_)
    refine WpD.skip ?_
    repeat (first | refine js ?_ | refine jb ?_)
    refine jr ?_
    refine jm rfl ?_
    refine ja rfl ?_
    refine RG.nil (by kernel_rfl) ?_
    repeat (first | refine js ?_ | refine jb ?_)
    refine jr ?_
    refine jm rfl ?_
    refine jm rfl ?_
    refine jm rfl ?_
    refine jS (ru_indexA rfl rfl hn1 rfl) ?_
    refine jS (ru_loadRS rfl rfl (by first | assumption | omega) (by assumption)) ?_
    refine jS (ru_loadR rfl rfl rfl rfl) ?_
    refine jS (ru_call C1 ⟨rfl, rfl, trivial⟩) ?_
    refine jS (rc_buildR (ps := [(_, _)]) ⟨rfl, Part.c rfl, trivial⟩ rfl rfl rfl) ?_
    refine RG.SW (LT.plain rfl (ru_appendA 533 rfl rfl hlen rfl (by omega) (by omega) rfl rfl rfl rfl rfl hr)) rfl ?_
    refine ja rfl ?_
    refine RG.nil (by kernel_rfl) ?_
    repeat (first | refine js ?_ | refine jb ?_)
    refine jr ?_
    refine jS (rt_bin_to rfl rfl (fun w => run_addi w _ _ _ _ _ _) (vint e3)) ?_
    refine jm rfl ?_
    refine RG.nil (by kernel_rfl) ?_
    refine ⟨⟨n + 1, by omega⟩, ?_, by dsimp only; omega⟩
    refine Sub.ren 506 533 rfl ?_ ?_ rfl
    · repeat (first | exact trivial | refine ⟨.inl ⟨⟨_, rfl, PLe.refl _⟩, trivial, trivial⟩, ?_⟩ | refine ⟨.inr ⟨_, _, rfl, .inl rfl, ⟨Option.some_ne_none _, Option.some_ne_none _⟩⟩, ?_⟩ | refine ⟨.inl ⟨⟨_, rfl, rfl⟩, Option.some_ne_none _, ⟨(by decide), (by decide)⟩⟩, ?_⟩ | refine ⟨.inl ⟨⟨_, rfl, rfl⟩, ⟨Option.some_ne_none _, Option.some_ne_none _⟩, ⟨(by decide), (by decide), (by decide), (by decide)⟩⟩, ?_⟩ | refine ⟨.inl ⟨⟨_, rfl, rfl⟩, clo_live (Option.some_ne_none _) (Option.some_ne_none _), clo_avoid (by decide) (by decide) (by decide) (by decide)⟩, ?_⟩ | refine ⟨.inr ⟨_, _, rfl, .inr ⟨(by omega), rfl⟩, Option.some_ne_none _⟩, ?_⟩)
    · repeat (first | exact trivial | refine ⟨.inr ⟨(by decide), .inr rfl⟩, ?_⟩ | refine ⟨.inl ⟨rfl, _, rfl, PsLe.refl _⟩, ?_⟩ | refine ⟨.inr ⟨(by decide), .inl ⟨(by decide), _, rfl, PsLe.refl _⟩⟩, ?_⟩)
  · have : n = k := by omega
    subst this
    have hlen := rows_len (pcells_len p.v) (n + 1)
    repeat (first | refine js ?_ | refine jb ?_)
    refine jr ?_
    refine jS (rt_bin_to rfl rfl (fun w => run_lti w _ _ _ _ _ _) (vbool (decide_eq_false (by first | assumption | omega)))) ?_
    refine RG.nil (by kernel_rfl) ?_
    repeat (first | refine js ?_ | refine jb ?_)
    refine WpD.condF rfl ?_
    repeat (first | refine js ?_ | refine jb ?_)
    refine WpD.exit ?_
    repeat (first | refine js ?_ | refine jb ?_)
    refine jr ?_
    refine jS (ru_call W0 ⟨rfl, trivial⟩) ?_
    refine jT (ru_alloc rfl rfl rfl) ?_
    refine jO (ru_storeR rfl rfl rfl rfl rfl rfl) ?_
    refine RG.nil (by kernel_rfl) ?_
    repeat (first | refine js ?_ | refine jb ?_)
    refine jr ?_
    refine jm rfl ?_
    refine jS (ru_call N1 ⟨rfl, trivial⟩) ?_
    refine jS (ru_len rfl CSlice.ok) ?_
    refine jm rfl ?_
    refine RG.nil (by kernel_rfl) ?_
    repeat (first | refine js ?_ | refine jb ?_)
    refine WpD.loop (α := {i : Nat // i ≤ n + 1}) (fun i => ⟨[(0, .one (ex (.int .i64 (n : Int)))), (4, .ptr 4 0), (6, .app 506 4 (n + 1)), (8, .ptr 8 0), (37, .one (slc 4 (rows bcells (n + 1)) (n + 1))), (38, .one (ex (.int .i64 ((n + 1 : Nat) : Int)))), (39, .one (ex (.int .i64 (i.1 : Int))))], [(506, rows (pcells p.v) (n + 1)), (756, []), (4, [ex (.bool false), ex (.slice none 0 0), ex (.bool false), ex (.slice none 0 0)]), (8, qCells (pvs n p.v i.1))]⟩) (fun i => n + 1 - i.1) ⟨0, Nat.zero_le _⟩ ?_ ?_
    · refine Sub.mk ?_ ?_
      · repeat (first | exact trivial | refine jv rfl ?_ | refine jw rfl (js0 rfl) ?_ | refine jw rfl ⟨js0 rfl, js0 rfl⟩ ?_ | refine jx rfl ⟨js0 rfl, js0 rfl⟩ ?_ | refine jw rfl (clo_live (js0 rfl) (js0 rfl)) ?_ | refine ⟨⟨_, rfl, PLe.refl _⟩, trivial, ?_⟩)
      · repeat (first | exact trivial | refine jz ?_ | refine jy rfl ?_)
    rintro ⟨i, hi⟩
    dsimp only at hi ⊢
    by_cases hil : i < n + 1
    · have hb := bin_le ⟨n, by omega⟩ ⟨i, by omega⟩
      dsimp only at hb
      have hq0 : ((rows bcells (n + 1)).drop (i * 4)).take 4 = qCells (bern i) := rows_get bcells_len hil
      have hki : n - i < n + 1 := by omega
      have hq : ((rows (pcells p.v) (n + 1)).drop ((n - i) * 4)).take 4 = qCells (p.v ^ (n - i)) := rows_get (pcells_len p.v) hki
      have hk4 : (n - i) * 4 + 4 ≤ (rows (pcells p.v) (n + 1)).length := by omega
      have e3 : IntKind.i64.wrap ((i : Int) + 1) = ((i + 1 : Nat) : Int) := by rw [w64 (by omega) (by omega)]; rfl
      have e7 : IntKind.i64.wrap ((n : Int) - (i : Int)) = ((n - i : Nat) : Int) := by rw [w64 (by omega) (by omega)]; omega
      have S1 := bern_sz (i := i) (by omega)
      have S3 := sz_z (z := (bin n i : Int)) (by omega) (by omega)
      have S4 := szq_pow hx (n - i)
      have S5 := bco_sz (k := n) (i := i) (by omega) (by omega)
      have S6 := pvs_sz (k := n) (by omega) hx hi
      have C1 := bbinomial En n i (by omega) (by omega)
      have C2 := bwhole En (bin n i : Int) (by omega) (by omega)
      have C3 := krmul En ((bin n i : Int) : Rat) (bern i) (S3.mono (by omega)) (S1.mono (by omega))
      have C4 := krmul En (bco n i) (p.v ^ (n - i)) (S5.mono (by omega)) (S4.mono (by omega))
      have C5 := kradd En (pvs n p.v i) (bco n i * p.v ^ (n - i)) (S6.mono (by omega)) ((szq_mul S5 S4).mono (by omega))
      repeat (first | refine js ?_ | refine jb ?_)
      refine jr ?_
      refine jS (rt_bin_to rfl rfl (fun w => run_lti w _ _ _ _ _ _) (vbool (decide_eq_true (by first | assumption | omega)))) ?_
      refine RG.nil (by kernel_rfl) ?_
      repeat (first | refine js ?_ | refine jb ?_)
      refine WpD.condT rfl ?_
      repeat (first | refine js ?_ | refine jb ?_)
      refine WpD.skip ?_
      repeat (first | refine js ?_ | refine jb ?_)
      refine jr ?_
      refine jm rfl ?_
      refine jS (rc_indexS rfl rfl hil hq0) ?_
      refine jS (rc_loadR rfl rfl rfl) ?_
      refine jT (ru_alloc rfl rfl rfl) ?_
      refine ja rfl ?_
      refine jO (ru_storeR rfl rfl rfl rfl rfl rfl) ?_
      refine RG.nil (by kernel_rfl) ?_
      repeat (first | refine js ?_ | refine jb ?_)
      refine jr ?_
      refine jm rfl ?_
      refine jm rfl ?_
      refine jS (ru_call C1 ⟨rfl, rfl, trivial⟩) ?_
      refine jS (ru_call C2 ⟨rfl, trivial⟩) ?_
      refine jS (ru_loadR rfl rfl rfl rfl) ?_
      refine jS (ru_call C3 ⟨rfl, rfl, trivial⟩) ?_
      refine jm rfl ?_
      refine jm rfl ?_
      refine jm rfl ?_
      refine jS (rt_bin_to rfl rfl (fun w => run_subi w _ _ _ _ _ _) (vint e7)) ?_
      refine jS (ru_indexA rfl rfl hki rfl) ?_
      refine jS (ru_loadRS rfl rfl (by first | assumption | omega) (by assumption)) ?_
      refine jS (ru_call C4 ⟨rfl, rfl, trivial⟩) ?_
      refine jT (ru_alloc rfl rfl rfl) ?_
      refine jO (ru_storeR rfl rfl rfl rfl rfl rfl) ?_
      refine RG.nil (by kernel_rfl) ?_
      repeat (first | refine js ?_ | refine jb ?_)
      refine jr ?_
      refine jS (ru_loadR rfl rfl rfl rfl) ?_
      refine jS (ru_loadR rfl rfl rfl rfl) ?_
      refine jS (ru_call C5 ⟨rfl, rfl, trivial⟩) ?_
      refine jO (ru_storeR rfl rfl rfl rfl rfl rfl) ?_
      refine RG.nil (by kernel_rfl) ?_
      repeat (first | refine js ?_ | refine jb ?_)
      refine jr ?_
      refine jS (rt_bin_to rfl rfl (fun w => run_addi w _ _ _ _ _ _) (vint e3)) ?_
      refine jm rfl ?_
      refine RG.nil (by kernel_rfl) ?_
      refine ⟨⟨i + 1, by omega⟩, ?_, by dsimp only; omega⟩
      refine Sub.mk ?_ ?_
      · repeat (first | exact trivial | refine jv rfl ?_ | refine jw rfl (js0 rfl) ?_ | refine jw rfl ⟨js0 rfl, js0 rfl⟩ ?_ | refine jx rfl ⟨js0 rfl, js0 rfl⟩ ?_ | refine jw rfl (clo_live (js0 rfl) (js0 rfl)) ?_ | refine ⟨⟨_, rfl, PLe.refl _⟩, trivial, ?_⟩)
      · repeat (first | exact trivial | refine jz ?_ | refine jy rfl ?_)
    · have : i = n + 1 := by omega
      subst this
      repeat (first | refine js ?_ | refine jb ?_)
      refine jr ?_
      refine jS (rt_bin_to rfl rfl (fun w => run_lti w _ _ _ _ _ _) (vbool (decide_eq_false (by first | assumption | omega)))) ?_
      refine RG.nil (by kernel_rfl) ?_
      repeat (first | refine js ?_ | refine jb ?_)
      refine WpD.condF rfl ?_
      repeat (first | refine js ?_ | refine jb ?_)
      refine WpD.exit ?_
      repeat (first | refine js ?_ | refine jb ?_)
      refine jr ?_
      refine jS (ru_loadR rfl rfl rfl rfl) ?_
      refine jO (ru_storeR rfl rfl rfl rfl rfl rfl) ?_
      refine ja rfl ?_
      refine RG.nil (by kernel_rfl) ?_
      repeat (first | refine js ?_ | refine jb ?_)
      refine WpD.ret ?_
      exact ret2 rfl (.cell rfl rfl CRow.ok rfl) (.tmp rfl) (PLe.refl _)
theorem kbpoly (k : Nat) (x : Rat) (hk : k ≤ 20) (hx : Sz 1000 x) : Fn Tryz.prog En 5 [ex (.int .i64 (k : Int)), qC x] (tupP [qC (pv k x), ex (.int .i64 0)]) := by
  have := bpoly En k (RQ.of x) hk (RQ.of_ok (hx.mono (by omega))) (by rw [RQ.of_v]; exact hx)
  rwa [RQ.of_v] at this
end
theorem pv_sz {k : Nat} {x : Rat} {b : Nat} (hk : k ≤ 20) (hx : Sz b x) : Sz (21 * (20 * b + 6) + 1) (pv k x) := by
  refine (pvs_sz hk hx (Nat.le_refl _)).mono ?_
  have : (k + 1) * (20 * b + 6) ≤ 21 * (20 * b + 6) := Nat.mul_le_mul_right _ (by omega)
  omega
end Go.Proofs.YtgbiccenhionaaaGreatDoor

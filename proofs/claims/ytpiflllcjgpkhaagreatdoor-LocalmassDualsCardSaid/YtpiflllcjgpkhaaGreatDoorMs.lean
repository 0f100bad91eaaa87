/- The tables of the program (two package variables); the scene's prime numbers; prime.Is, prime.Discriminant as contracts. -/
import Derived.Test.YtpiflllcjgpkhaaGreatDoorBf
import Derived.Test.YtpiflllcjgpkhaaGreatDoorG
import Derived.OpenShut
import Derived.Deep.QuietTactic
import Derived.BigQuiet
set_option maxRecDepth 3000
namespace Go.Proofs.YtpiflllcjgpkhaaGreatDoor
open Go.RowKit Limb Num
instance cbody37 : CBody Tryz.prog 37 := ⟨⟨_, Tryz.func37, rfl, by rfl⟩⟩
instance cbody19 : CBody Tryz.prog 19 := ⟨⟨_, Tryz.func19, rfl, by rfl⟩⟩
instance cbody6 : CBody Tryz.prog 6 := ⟨⟨_, Tryz.func6, rfl, by rfl⟩⟩
instance cbody28 : CBody Tryz.prog 28 := ⟨⟨_, Tryz.func28, rfl, by rfl⟩⟩
/-- The rows of the table of species. -/
def mrow : List (Bool × Bool × Int × Int × Int) := [(false, false, 0, 0, 2), (false, true, 0, 1, 0), (true, true, 1, 0, 0), (true, true, 0, -1, 0), (true, false, 0, -2, 1), (true, false, 1, -1, 1), (true, false, 7, -1, 1), (true, false, 2, -1, 0), (true, false, 6, -1, 0), (true, false, 3, -1, -1), (true, false, 5, -1, -1), (true, false, 4, -2, -1)]
def mcells (r : Bool × Bool × Int × Int × Int) : List Value := [.bool r.1, .bool r.2.1, .int .i64 r.2.2.1, .int .i64 r.2.2.2.1, .int .i64 r.2.2.2.2]
def mtabV : Array Value := (mrow.flatMap mcells).toArray
def TabM (w : World) : Prop := ∃ t fr, w.heap[0]? = some (.cells mtabV t fr)
/-- Both tables. -/
def TabD : Ev := ⟨fun w => Tab w ∧ TabM w, fun k => k = 1 ∨ k = 0,
  fun w ⟨⟨t, fr, h⟩, ⟨t', fr', h'⟩⟩ k hk => by rcases hk with rfl | rfl; exact block_lt h; exact block_lt h',
  fun w w' hk ⟨⟨t, fr, h⟩, ⟨t', fr', h'⟩⟩ => ⟨⟨t, fr, by rw [hk _ (.inl rfl)]; exact h⟩, ⟨t', fr', by rw [hk _ (.inr rfl)]; exact h'⟩⟩⟩
theorem Fn.tab {f : FuncId} {ps : List Pd} {r : Pd} (h : Fn Tryz.prog TabE f ps r) : Fn Tryz.prog TabD f ps r := h.env fun _ h => h.1
theorem ex_fnU {h : GH} {w w' : World} {v : Value} {e : Ending} (hh : Holds h w) (he : e = .returned v) (hb : Below w.heap.size w w') : FnPost h w (ex v) e w' := by subst he; exact fn_post hh hb rfl
theorem fis (n : Int) : Fn Tryz.prog TabE 37 [ex (.int .i64 n)] (ex (.bool (isP n.toNat))) := by
  intro h w vs ht hh hv
  obtain ⟨v, rfl, h1⟩ := hv.one
  have h1 : v = .int .i64 n := h1
  subst h1
  refine (is_any n w ht).mono ?_
  rintro e w' ⟨rfl, rfl⟩
  exact fn_post hh (Below.refl _ _) rfl
/-- The scene's odd prime numbers. -/
def od8 (j : Nat) : Nat := ([3, 5, 7, 11, 13, 17, 19, 23] : List Nat).getD j 0
set_option maxHeartbeats 4000000 in
theorem odd_any (k : Int) (w : World) (h1 : 0 ≤ k) (h2 : k ≤ 255) :
    Calls Tryz.prog 28 #[.int .u8 k] w fun e w' => e = .returned (.int .i64 (od8 (k % 8).toNat : Int)) ∧ Below w.heap.size w w' := by
  have hr : k % 8 = 0 ∨ k % 8 = 1 ∨ k % 8 = 2 ∨ k % 8 = 3 ∨ k % 8 = 4 ∨ k % 8 = 5 ∨ k % 8 = 6 ∨ k % 8 = 7 := by omega
  obtain ⟨r, hrr⟩ : ∃ r, k % 8 = r := ⟨_, rfl⟩
  rw [hrr] at hr
  have HR := Lib.hid hrr
  rcases hr with rfl | rfl | rfl | rfl | rfl | rfl | rfl | rfl
  all_goals
    go_enter Tryz.func28, Tryz.ntmps28
    go_wp2_with fail
    go_ret
    refine ⟨?_, (Below.refl _ _).alloc (Nat.le_refl _) _⟩
    first | rfl | (rw [HR.out]; rfl)
theorem fodd (En : Ev) (k : Int) (h1 : 0 ≤ k) (h2 : k ≤ 255) : Fn Tryz.prog En 28 [ex (.int .u8 k)] (ex (.int .i64 (od8 (k % 8).toNat : Int))) := by
  intro h w vs _ hh hv
  obtain ⟨v, rfl, e1⟩ := hv.one
  have e1 : v = .int .u8 k := e1
  subst e1
  exact (odd_any k w h1 h2).mono fun _ _ ⟨he, hb⟩ => ex_fnU hh he hb
theorem od8_ok : ∀ j : Fin 8, isP (od8 j.1) = true ∧ 3 ≤ od8 j.1 ∧ od8 j.1 ≤ 23 := by decide +kernel
theorem sfS_bound {n : Int} (h0 : n ≠ 0) (hn : InR n) : -2147483647 ≤ sfS n ∧ sfS n ≤ 2147483647 := by
  have := (sf_ok n h0).bound
  unfold InR at hn
  omega

set_option maxHeartbeats 1000000 in
theorem disc_any (n : Int) (w : World) (h0 : n ≠ 0) (hn : InR n) (ht : Tab w) :
    Calls Tryz.prog 19 #[.int .i64 n] w fun e w' => e = .returned (.tuple #[.int .i64 (disc n), .int .i64 0]) ∧ Below w.heap.size w w' := by
  obtain ⟨b1, b2⟩ := sfS_bound h0 hn
  have C := Lib.hid (sqf_any n w h0 hn ht)
  obtain ⟨s, hs⟩ : ∃ s, sfS n = s := ⟨_, rfl⟩
  have HD : Hid (disc n = if s % 4 = 1 then s else 4 * s) := by show disc n = _; unfold disc; rw [hs]
  rw [hs] at b1 b2 C
  clear hs
  by_cases h4 : s % 4 = 1
  · have hb : (s % 4 == 1) = true := by rw [beq_iff_eq]; exact h4
    rw [if_pos h4] at HD
    clear h4
    go_enter Tryz.func19, Tryz.ntmps19
    go_wp2_with (first | (go_at_call 40; refine C.out.mono ?_; rintro e w1 ⟨rfl, hbel⟩; have HB := Lib.hid hbel; clear hbel) | (go_at_call 41; refine (residue_any _ _ _ (by omega) (by omega)).mono ?_; rintro e w' ⟨rfl, rfl⟩))
    go_ret2
    exact ⟨by rw [HD.out]; rfl, HB.out⟩
  · have hb : (s % 4 == 1) = false := by rw [beq_eq_false_iff_ne]; exact h4
    rw [if_neg h4] at HD
    clear h4
    go_enter Tryz.func19, Tryz.ntmps19
    go_wp2_with (first | (go_at_call 40; refine C.out.mono ?_; rintro e w1 ⟨rfl, hbel⟩; have HB := Lib.hid hbel; clear hbel) | (go_at_call 41; refine (residue_any _ _ _ (by omega) (by omega)).mono ?_; rintro e w' ⟨rfl, rfl⟩))
    go_ret2
    exact ⟨by rw [HD.out]; rfl, HB.out⟩
theorem fdisc (n : Int) (h0 : n ≠ 0) (hn : InR n) : Fn Tryz.prog TabE 19 [ex (.int .i64 n)] (tupP [ex (.int .i64 (disc n)), ex (.int .i64 0)]) := by
  intro h w vs ht hh hv
  obtain ⟨v, rfl, h1⟩ := hv.one
  have h1 : v = .int .i64 n := h1
  subst h1
  exact (disc_any n w h0 hn ht).mono fun _ _ ⟨he, hb⟩ => by subst he; exact fn_post hh hb ⟨[_, _], rfl, rfl, rfl, trivial⟩
end Go.Proofs.YtpiflllcjgpkhaaGreatDoor

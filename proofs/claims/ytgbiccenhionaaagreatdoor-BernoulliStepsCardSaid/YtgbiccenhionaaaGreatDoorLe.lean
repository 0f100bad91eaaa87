/- Statements of chapter 31: Sums, Symmetry, Steps. -/
import Derived.Test.YtgbiccenhionaaaGreatDoorPo
set_option maxRecDepth 3000
namespace Go.Proofs.YtgbiccenhionaaaGreatDoor
open Go.RowKit Limb Num
theorem rat_sub_zero {a b : Rat} (h : a = b) : sg3 (a - b).num = 0 := by subst h; rw [Rat.sub_self]; rfl
theorem cmpQ_self (a : Rat) : cmpQ a a = 0 := by unfold cmpQ cmpZ; simp
section
variable (En : Ev)
theorem gratio (a b : Int) (h1 : -9223372036854775808 ≤ a) (h2 : a ≤ 9223372036854775807) (h3 : -9223372036854775808 ≤ b) (h4 : b ≤ 9223372036854775807) (hb : b ≠ 0) : Fn Tryz.prog En 4 [ex (.int .i64 a), ex (.int .i64 b)] (qC (Rat.divInt a b)) := by
  have C1 := fsmall En a h1 h2
  have C2 := fsmall En b h3 h4
  have C3 := knew En a b (Nat.le_trans (zl_small (by omega) (by omega)) (show 2 ≤ 536870912 by omega)) (Nat.le_trans (zl_small (by omega) (by omega)) (show 2 ≤ 536870912 by omega)) hb
  refine fn_of_body Tryz.func4 rfl Tryz.ntmps4 rfl ?_
  intro w0 h0
  repeat (first | refine js ?_ | refine jb ?_)
  refine jr ?_
  refine jT (ru_alloc rfl rfl rfl) ?_
  refine RG.nil (by kernel_rfl) ?_
  repeat (first | refine js ?_ | refine jb ?_)
  refine jr ?_
  refine jm rfl ?_
  refine jS (ru_call C1 ⟨rfl, trivial⟩) ?_
  refine jm rfl ?_
  refine jS (ru_call C2 ⟨rfl, trivial⟩) ?_
  refine jS (ru_call C3 ⟨rfl, rfl, trivial⟩) ?_
  refine jm rfl ?_
  refine jS (rt_extract rfl rfl) ?_
  refine jS (rt_extract rfl rfl) ?_
  refine jT (ru_alloc rfl rfl rfl) ?_
  refine jO (ru_storeR rfl rfl rfl rfl rfl rfl) ?_
  refine ja rfl ?_
  refine RG.nil (by kernel_rfl) ?_
  repeat (first | refine js ?_ | refine jb ?_)
  refine jr ?_
  refine jS (ru_loadR rfl rfl rfl rfl) ?_
  refine jO (ru_storeR rfl rfl rfl rfl rfl rfl) ?_
  refine RG.nil (by kernel_rfl) ?_
  repeat (first | refine js ?_ | refine jb ?_)
  refine WpD.ret ?_
  exact ret1 rfl (.cell rfl rfl CRow.ok rfl) (PLe.refl _)
end
theorem sz_ratio {a b : Int} (h1 : -9223372036854775808 ≤ a) (h2 : a ≤ 9223372036854775807) (h3 : -9223372036854775808 ≤ b) (h4 : b ≤ 9223372036854775807) (hb : b ≠ 0) : Sz 2 (Rat.divInt a b) := szq_divInt hb (zl_small (by omega) (by omega)) (zl_small (by omega) (by omega))
theorem spw_sz {e : Nat} (he : e ≤ 11) : ∀ n : Nat, n ≤ 255 → Sz (n * 24 + 2) (spw e n)
  | 0, _ => ⟨show zl (0 : Rat).num ≤ 2 by decide, show zl (((0 : Rat).den : Nat) : Int) ≤ 2 by decide⟩
  | n + 1, h => (szq_add (spw_sz he n (by omega)) (szq_pow (sz_z (z := (n : Int)) (by omega) (by omega)) e)).mono (by omega)
end Go.Proofs.YtgbiccenhionaaaGreatDoor

/- Fundamental discriminants and characters: the program's and the reference's. -/
import Derived.Test.YtpiflllcjgpkhaaGreatDoorBp
set_option maxRecDepth 3000
namespace Go.Proofs.YtpiflllcjgpkhaaGreatDoor
open Go.RowKit Limb Num
/-- The table of the program. -/
def TabE : Ev := ⟨Tab, fun k => k = 1, fun w ⟨t, fr, h⟩ k hk => by subst hk; exact block_lt h, fun w w' hk ⟨t, fr, h⟩ => ⟨t, fr, by rw [hk _ rfl]; exact h⟩⟩
instance cint_errno : CInt Tryz.prog 28 .i64 := ⟨Tryz.underlying28⟩
instance cbody40 : CBody Tryz.prog 40 := ⟨⟨_, Tryz.func40, rfl, by rfl⟩⟩
instance cbody107 : CBody Tryz.prog 107 := ⟨⟨_, Tryz.func107, rfl, by rfl⟩⟩
instance cbody46 : CBody Tryz.prog 46 := ⟨⟨_, Tryz.func46, rfl, by rfl⟩⟩
instance cbody105 : CBody Tryz.prog 105 := ⟨⟨_, Tryz.func105, rfl, by rfl⟩⟩
instance cbody75 : CBody Tryz.prog 75 := ⟨⟨_, Tryz.func75, rfl, by rfl⟩⟩
instance cbody43 : CBody Tryz.prog 43 := ⟨⟨_, Tryz.func43, rfl, by rfl⟩⟩
section
variable (En : Ev)
theorem gris (n : Int) : Fn Tryz.prog En 43 [ex (.int .i64 n)] (ex (.bool (isP n.toNat))) := by
  intro h w vs _ hh hv
  obtain ⟨v, rfl, h1⟩ := hv.one
  have h1 : v = .int .i64 n := h1
  subst h1
  exact (ris_any n w).mono fun _ _ ⟨he, hb⟩ => by subst he; subst hb; exact fn_post hh (Below.refl _ _) rfl
end
end Go.Proofs.YtpiflllcjgpkhaaGreatDoor

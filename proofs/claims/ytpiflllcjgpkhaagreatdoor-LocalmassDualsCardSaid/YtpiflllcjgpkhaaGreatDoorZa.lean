/- The reference's integers, abstractly. -/
import Derived.Test.YtpiflllcjgpkhaaGreatDoorIz
import Derived.Test.YtpiflllcjgpkhaaGreatDoorR
set_option maxRecDepth 3000
namespace Go.Proofs.YtpiflllcjgpkhaaGreatDoor
open Go.RowKit Limb
theorem mag_mg {h : GH} {w : World} (hh : Holds h w) {v : Value} {l : List Nat} (hm : (mag l).p h v) : Mg w v l := by
  obtain ⟨⟨a, cap, h1, h2, h3, h4⟩, h5⟩ := hm
  refine ⟨⟨a, cap, h1, h2, h3, fun hx => ?_⟩, h5⟩
  have hl : l ≠ [] := by rintro rfl; exact hx rfl
  obtain ⟨b, off, e, hc⟩ := h4 hl
  have hlt : b < w.heap.size := by
    obtain ⟨x, hx⟩ := List.exists_mem_of_ne_nil l hl
    obtain ⟨j, hj⟩ := List.getElem?_of_mem hx
    exact hh.lt (hc j x hj)
  refine ⟨b, off, e, hlt, fun j u hu => ?_⟩
  simp only [limbCells, List.getElem?_map, Option.map_eq_some_iff] at hu
  obtain ⟨x, hx, rfl⟩ := hu
  exact hh _ _ _ (hc j x hx)
theorem ex_fn {h : GH} {w w' : World} {v : Value} {e : Ending} (hh : Holds h w) (he : e = .returned v) (hb : Below w.heap.size w w') : FnPost h w (ex v) e w' := by subst he; exact fn_post hh hb rfl
section
variable (En : Ev)
theorem zC_can {h : GH} {w : World} (hh : Holds h w) {v : Value} {z : Int} (hz : (zC z).p h v) : ∃ a cap, v = .agg #[.bool (decide (z < 0)), .slice a (digs z.natAbs).length cap] ∧ Can w (decide (z < 0)) a (digs z.natAbs).length cap z := by
  obtain ⟨vs, rfl, ha⟩ := hz
  obtain ⟨u, x, rfl, hu, hx, _, _⟩ := ha.two
  have hu : u = .bool (decide (z < 0)) := hu
  subst hu
  obtain ⟨⟨a, cap, e, hr⟩, hl⟩ := hx
  subst e
  exact ⟨a, cap, rfl, rfl, rfl, mag_mg hh ⟨⟨a, cap, rfl, hr⟩, hl⟩⟩
theorem fsame (z z' : Int) (hk : sz z ≤ 1073741824) (hk' : sz z' ≤ 1073741824) : Fn Tryz.prog En 23 [zC z, zC z'] (ex (.bool (decide (z = z')))) := by
  intro h w vs _ hh ha
  obtain ⟨v, u, rfl, hv, hu⟩ := ha.two
  obtain ⟨a, cap, rfl, hz⟩ := zC_can hh hv
  obtain ⟨a', cap', rfl, hz'⟩ := zC_can hh hu
  exact (zsame_any _ a _ cap z _ a' _ cap' z' w hz hz' hk hk').mono fun _ _ ⟨he, hb⟩ => ex_fn hh he hb
end
end Go.Proofs.YtpiflllcjgpkhaaGreatDoor

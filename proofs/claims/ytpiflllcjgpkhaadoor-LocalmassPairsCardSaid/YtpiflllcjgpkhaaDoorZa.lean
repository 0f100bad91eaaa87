/- The reference's integers, abstractly. -/
import Derived.Test.YtpiflllcjgpkhaaDoorIz
import Derived.Test.YtpiflllcjgpkhaaDoorR
set_option maxRecDepth 3000
namespace Go.Proofs.YtpiflllcjgpkhaaDoor
open Go.RowKit Limb
theorem mag_mg {h : GH} {w : World} (hh : Holds h w) {v : Value} {l : List Nat} (hm : (mag l).p h v) : Mg w v l := by
  obtain ⟨⟨a, cap, h1, h2, h3, h4⟩, h5⟩ := hm
  refine ⟨⟨a, cap, h1, h2, h3, fun hx => ?_⟩, h5⟩
  have hl : l ≠ [] := by rintro rfl; exact hx rfl
  obtain ⟨b, off, e, hc⟩ := h4 hl
  have hlt : b < w.heap.size := by
    obtain ⟨x, hx⟩ := List.exists_mem_of_ne_nil l hl
    obtain ⟨j, hj⟩ := List.getElem?_of_mem hx
    exact hh.lt (hc j x hj)
  refine ⟨b, off, e, hlt, fun j u hu => ?_⟩
  simp only [limbCells, List.getElem?_map, Option.map_eq_some_iff] at hu
  obtain ⟨x, hx, rfl⟩ := hu
  exact hh _ _ _ (hc j x hx)
theorem mg_mag {h : GH} {w w' : World} {a : Option Addr} {n cap : Nat} {l : List Nat} (hm : Mg w' (.slice a n cap) l) (hf : Fr w.heap.size a) : (mag l).p (pub w w' h) (.slice a n cap) := by
  obtain ⟨⟨a', cap', h1, h2, h3, h4⟩, h5⟩ := hm
  injection h1 with e1 e2 e3
  subst e1 e2 e3
  refine ⟨⟨a, cap, rfl, h2, h3, fun hl => ?_⟩, h5⟩
  obtain ⟨b, off, e, _, hc⟩ := h4 (fun e => hl (by have := congrArg List.length e; rw [limbCells_length] at this; exact List.length_eq_zero_iff.1 this))
  refine ⟨b, off, e, fun j x hx => ?_⟩
  rw [pub_new (hf _ e)]
  exact hc j _ (limbCells_get hx)
theorem zR_isZ {h : GH} {w : World} (hh : Holds h w) {v : Value} {s : Bool} {l : List Nat} (hz : (zR s l).p h v) : ∃ a cap, v = .agg #[.bool s, .slice a l.length cap] ∧ IsZ w s a l.length cap (zv s l) l.length := by
  obtain ⟨vs, rfl, ha⟩ := hz
  obtain ⟨u, x, rfl, hu, hx, _, _⟩ := ha.two
  have hu : u = .bool s := hu
  subst hu
  obtain ⟨⟨a, cap, e, hr⟩, hl⟩ := hx
  subst e
  exact ⟨a, cap, rfl, l, rfl, mag_mg hh ⟨⟨a, cap, rfl, hr⟩, hl⟩, Nat.le_refl _, rfl⟩
theorem can_zC {h : GH} {w w' : World} {s : Bool} {a : Option Addr} {n cap : Nat} {z : Int} (hc : Can w' s a n cap z) (hf : Fr w.heap.size a) : (zC z).p (pub w w' h) (.agg #[.bool s, .slice a n cap]) := by
  obtain ⟨rfl, _, h3⟩ := hc
  exact ⟨[.bool _, .slice a n cap], rfl, rfl, rfl, mg_mag h3 hf, rfl, trivial⟩
theorem zpost_fn {h : GH} {w w' : World} {z : Int} {e : Ending} (hh : Holds h w) (hp : ZPost z w e w') : FnPost h w (zC z) e w' := by
  obtain ⟨s, a, n, cap, rfl, hc, hf, hb⟩ := hp
  exact fn_post hh hb (can_zC hc hf)
theorem newmg_fn {h : GH} {w w' : World} {l : List Nat} {e : Ending} (hl : Lm l) (hh : Holds h w) (hp : NewMg w l e w') : FnPost h w (mag l) e w' := by
  obtain ⟨v, rfl, hown, hb⟩ := hp
  have hm := Mg.of_owns hown hl
  obtain ⟨a, cap, rfl, _⟩ := hm.form
  exact fn_post hh hb (mg_mag hm (Fr.of_owns hown))
theorem ex_fn {h : GH} {w w' : World} {v : Value} {e : Ending} (hh : Holds h w) (he : e = .returned v) (hb : Below w.heap.size w w') : FnPost h w (ex v) e w' := by subst he; exact fn_post hh hb rfl
/-- Limbs with this value, at most so many. -/
def rawM (x k : Nat) : Pd := ⟨fun h v => ∃ l, val l = x ∧ l.length ≤ k ∧ (mag l).p h v, fun _ _ _ hl ⟨l, h1, h2, h3⟩ => ⟨l, h1, h2, (mag l).mono _ _ _ hl h3⟩⟩
theorem rawpost_fn {h : GH} {w w' : World} {x k : Nat} {e : Ending} (hh : Holds h w) (hp : RawPost x k w e w') : FnPost h w (rawM x k) e w' := by
  obtain ⟨l, v, rfl, hown, hlm, hval, hlen, hb⟩ := hp
  have hm := Mg.of_owns hown hlm
  obtain ⟨a, cap, rfl, _⟩ := hm.form
  exact fn_post hh hb ⟨l, hval, hlen, mg_mag hm (Fr.of_owns hown)⟩
section
variable (En : Ev)
theorem zC_can {h : GH} {w : World} (hh : Holds h w) {v : Value} {z : Int} (hz : (zC z).p h v) : ∃ a cap, v = .agg #[.bool (decide (z < 0)), .slice a (digs z.natAbs).length cap] ∧ Can w (decide (z < 0)) a (digs z.natAbs).length cap z := by
  obtain ⟨vs, rfl, ha⟩ := hz
  obtain ⟨u, x, rfl, hu, hx, _, _⟩ := ha.two
  have hu : u = .bool (decide (z < 0)) := hu
  subst hu
  obtain ⟨⟨a, cap, e, hr⟩, hl⟩ := hx
  subst e
  exact ⟨a, cap, rfl, rfl, rfl, mag_mg hh ⟨⟨a, cap, rfl, hr⟩, hl⟩⟩
end
end Go.Proofs.YtpiflllcjgpkhaaDoor

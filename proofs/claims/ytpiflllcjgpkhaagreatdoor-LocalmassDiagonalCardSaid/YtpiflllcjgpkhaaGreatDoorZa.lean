/- The reference's integers, abstractly. -/
import Derived.Test.YtpiflllcjgpkhaaGreatDoorIz
import Derived.Test.YtpiflllcjgpkhaaGreatDoorR
set_option maxRecDepth 3000
namespace Go.Proofs.YtpiflllcjgpkhaaGreatDoor
open Go.RowKit Limb
theorem mag_mg {h : GH} {w : World} (hh : Holds h w) {v : Value} {l : List Nat} (hm : (mag l).p h v) : Mg w v l := by
  obtain ⟨⟨a, cap, h1, h2, h3, h4⟩, h5⟩ := hm
  refine ⟨⟨a, cap, h1, h2, h3, fun hx => ?_⟩, h5⟩
  have hl : l ≠ [] := by rintro rfl; exact hx rfl
  obtain ⟨b, off, e, hc⟩ := h4 hl
  have hlt : b < w.heap.size := by
    obtain ⟨x, hx⟩ := List.exists_mem_of_ne_nil l hl
    obtain ⟨j, hj⟩ := List.getElem?_of_mem hx
    exact hh.lt (hc j x hj)
  refine ⟨b, off, e, hlt, fun j u hu => ?_⟩
  simp only [limbCells, List.getElem?_map, Option.map_eq_some_iff] at hu
  obtain ⟨x, hx, rfl⟩ := hu
  exact hh _ _ _ (hc j x hx)
theorem mg_mag {h : GH} {w w' : World} {a : Option Addr} {n cap : Nat} {l : List Nat} (hm : Mg w' (.slice a n cap) l) (hf : Fr w.heap.size a) : (mag l).p (pub w w' h) (.slice a n cap) := by
  obtain ⟨⟨a', cap', h1, h2, h3, h4⟩, h5⟩ := hm
  injection h1 with e1 e2 e3
  subst e1 e2 e3
  refine ⟨⟨a, cap, rfl, h2, h3, fun hl => ?_⟩, h5⟩
  obtain ⟨b, off, e, _, hc⟩ := h4 (fun e => hl (by have := congrArg List.length e; rw [limbCells_length] at this; exact List.length_eq_zero_iff.1 this))
  refine ⟨b, off, e, fun j x hx => ?_⟩
  rw [pub_new (hf _ e)]
  exact hc j _ (limbCells_get hx)
theorem zR_isZ {h : GH} {w : World} (hh : Holds h w) {v : Value} {s : Bool} {l : List Nat} (hz : (zR s l).p h v) : ∃ a cap, v = .agg #[.bool s, .slice a l.length cap] ∧ IsZ w s a l.length cap (zv s l) l.length := by
  obtain ⟨vs, rfl, ha⟩ := hz
  obtain ⟨u, x, rfl, hu, hx, _, _⟩ := ha.two
  have hu : u = .bool s := hu
  subst hu
  obtain ⟨⟨a, cap, e, hr⟩, hl⟩ := hx
  subst e
  exact ⟨a, cap, rfl, l, rfl, mag_mg hh ⟨⟨a, cap, rfl, hr⟩, hl⟩, Nat.le_refl _, rfl⟩
theorem can_zC {h : GH} {w w' : World} {s : Bool} {a : Option Addr} {n cap : Nat} {z : Int} (hc : Can w' s a n cap z) (hf : Fr w.heap.size a) : (zC z).p (pub w w' h) (.agg #[.bool s, .slice a n cap]) := by
  obtain ⟨rfl, _, h3⟩ := hc
  exact ⟨[.bool _, .slice a n cap], rfl, rfl, rfl, mg_mag h3 hf, rfl, trivial⟩
theorem zpost_fn {h : GH} {w w' : World} {z : Int} {e : Ending} (hh : Holds h w) (hp : ZPost z w e w') : FnPost h w (zC z) e w' := by
  obtain ⟨s, a, n, cap, rfl, hc, hf, hb⟩ := hp
  exact fn_post hh hb (can_zC hc hf)
theorem newmg_fn {h : GH} {w w' : World} {l : List Nat} {e : Ending} (hl : Lm l) (hh : Holds h w) (hp : NewMg w l e w') : FnPost h w (mag l) e w' := by
  obtain ⟨v, rfl, hown, hb⟩ := hp
  have hm := Mg.of_owns hown hl
  obtain ⟨a, cap, rfl, _⟩ := hm.form
  exact fn_post hh hb (mg_mag hm (Fr.of_owns hown))
theorem ex_fn {h : GH} {w w' : World} {v : Value} {e : Ending} (hh : Holds h w) (he : e = .returned v) (hb : Below w.heap.size w w') : FnPost h w (ex v) e w' := by subst he; exact fn_post hh hb rfl
/-- Limbs with this value, at most so many. -/
def rawM (x k : Nat) : Pd := ⟨fun h v => ∃ l, val l = x ∧ l.length ≤ k ∧ (mag l).p h v, fun _ _ _ hl ⟨l, h1, h2, h3⟩ => ⟨l, h1, h2, (mag l).mono _ _ _ hl h3⟩⟩
theorem rawpost_fn {h : GH} {w w' : World} {x k : Nat} {e : Ending} (hh : Holds h w) (hp : RawPost x k w e w') : FnPost h w (rawM x k) e w' := by
  obtain ⟨l, v, rfl, hown, hlm, hval, hlen, hb⟩ := hp
  have hm := Mg.of_owns hown hlm
  obtain ⟨a, cap, rfl, _⟩ := hm.form
  exact fn_post hh hb ⟨l, hval, hlen, mg_mag hm (Fr.of_owns hown)⟩
section
variable (En : Ev)
theorem ftrim (l : List Nat) (hl : l.length ≤ 1099511627776) : Fn Tryz.prog En 142 [mag l] (mag (digs (val l))) := by
  intro h w vs _ hh ha
  obtain ⟨v, rfl, hv⟩ := ha.one
  exact (ztrim_any v l w (mag_mg hh hv) hl).mono fun _ _ hp => newmg_fn (lm_digs _) hh hp
theorem fmake (neg : Bool) (l : List Nat) (hl : l.length ≤ 1099511627776) : Fn Tryz.prog En 128 [ex (.bool neg), mag l] (zC (zv neg l)) := by
  intro h w vs _ hh ha
  obtain ⟨v, u, rfl, hv, hu⟩ := ha.two
  have hv : v = .bool neg := hv
  subst hv
  exact (zmake_any neg u l w (zv neg l) (mag_mg hh hu) hl rfl).mono fun _ _ hp => zpost_fn hh hp
theorem fword (neg : Bool) (u : Nat) (hu : u < 18446744073709551616) : Fn Tryz.prog En 110 [ex (.bool neg), ex (.int .u64 u)] (zC (if neg then -(u : Int) else (u : Int))) := by
  intro h w vs _ hh ha
  obtain ⟨v, x, rfl, hv, hx⟩ := ha.two
  have hv : v = .bool neg := hv
  have hx : x = .int .u64 u := hx
  subst hv hx
  exact (zword_any neg u w _ hu rfl).mono fun _ _ hp => zpost_fn hh hp
theorem fsmall (n : Int) (h1 : -9223372036854775808 ≤ n) (h2 : n ≤ 9223372036854775807) : Fn Tryz.prog En 83 [ex (.int .i64 n)] (zC n) := by
  intro h w vs _ hh ha
  obtain ⟨v, rfl, hv⟩ := ha.one
  have hv : v = .int .i64 n := hv
  subst hv
  exact (zsmall_any n w h1 h2).mono fun _ _ hp => zpost_fn hh hp
theorem fabs (s : Bool) (l : List Nat) (hl : l.length ≤ 1099511627776) : Fn Tryz.prog En 143 [zR s l] (zC ((zv s l).natAbs : Int)) := by
  intro h w vs _ hh ha
  obtain ⟨v, rfl, hv⟩ := ha.one
  obtain ⟨a, cap, rfl, hz⟩ := zR_isZ hh hv
  exact (zabs_any s a _ cap _ _ w hz hl).mono fun _ _ hp => zpost_fn hh hp
theorem fsign (s : Bool) (l : List Nat) (hl : l.length ≤ 1099511627776) : Fn Tryz.prog En 122 [zR s l] (ex (.int .i64 (sg3 (zv s l)))) := by
  intro h w vs _ hh ha
  obtain ⟨v, rfl, hv⟩ := ha.one
  obtain ⟨a, cap, rfl, hz⟩ := zR_isZ hh hv
  exact (zsign_any s a _ cap _ _ w hz hl).mono fun _ _ ⟨he, hb⟩ => ex_fn hh he hb
theorem fadd (s : Bool) (l : List Nat) (s' : Bool) (l' : List Nat) (hl : l.length ≤ 1073741824) (hl' : l'.length ≤ 1073741824) : Fn Tryz.prog En 126 [zR s l, zR s' l'] (zC (zv s l + zv s' l')) := by
  intro h w vs _ hh ha
  obtain ⟨v, u, rfl, hv, hu⟩ := ha.two
  obtain ⟨a, cap, rfl, hz⟩ := zR_isZ hh hv
  obtain ⟨a', cap', rfl, hz'⟩ := zR_isZ hh hu
  exact (zadd_any s a _ cap _ _ s' a' _ cap' _ _ w hz hz' hl hl').mono fun _ _ hp => zpost_fn hh hp
theorem fsub (s : Bool) (l : List Nat) (s' : Bool) (l' : List Nat) (hl : l.length ≤ 1073741824) (hl' : l'.length ≤ 1073741824) : Fn Tryz.prog En 154 [zR s l, zR s' l'] (zC (zv s l - zv s' l')) := by
  intro h w vs _ hh ha
  obtain ⟨v, u, rfl, hv, hu⟩ := ha.two
  obtain ⟨a, cap, rfl, hz⟩ := zR_isZ hh hv
  obtain ⟨a', cap', rfl, hz'⟩ := zR_isZ hh hu
  exact (zsub_any s a _ cap _ _ s' a' _ cap' _ _ w hz hz' hl hl').mono fun _ _ hp => zpost_fn hh hp
theorem zC_can {h : GH} {w : World} (hh : Holds h w) {v : Value} {z : Int} (hz : (zC z).p h v) : ∃ a cap, v = .agg #[.bool (decide (z < 0)), .slice a (digs z.natAbs).length cap] ∧ Can w (decide (z < 0)) a (digs z.natAbs).length cap z := by
  obtain ⟨vs, rfl, ha⟩ := hz
  obtain ⟨u, x, rfl, hu, hx, _, _⟩ := ha.two
  have hu : u = .bool (decide (z < 0)) := hu
  subst hu
  obtain ⟨⟨a, cap, e, hr⟩, hl⟩ := hx
  subst e
  exact ⟨a, cap, rfl, rfl, rfl, mag_mg hh ⟨⟨a, cap, rfl, hr⟩, hl⟩⟩
theorem fsame (z z' : Int) (hk : sz z ≤ 1073741824) (hk' : sz z' ≤ 1073741824) : Fn Tryz.prog En 23 [zC z, zC z'] (ex (.bool (decide (z = z')))) := by
  intro h w vs _ hh ha
  obtain ⟨v, u, rfl, hv, hu⟩ := ha.two
  obtain ⟨a, cap, rfl, hz⟩ := zC_can hh hv
  obtain ⟨a', cap', rfl, hz'⟩ := zC_can hh hu
  exact (zsame_any _ a _ cap z _ a' _ cap' z' w hz hz' hk hk').mono fun _ _ ⟨he, hb⟩ => ex_fn hh he hb
theorem fdivide (x y : Nat) (hd : DivOK x y) : Fn Tryz.prog En 153 [mag (digs x), mag (digs y)] (tupP [mag (digs (x / y)), mag (digs (x % y))]) := by
  intro h w vs _ hh ha
  obtain ⟨v, u, rfl, hv, hu⟩ := ha.two
  refine (hd w v u (mag_mg hh hv) (mag_mg hh hu)).mono ?_
  rintro e w' ⟨a, n, cap, a', n', cap', rfl, h1, h2, rfl, rfl, f1, f2, hb⟩
  exact fn_post hh hb ⟨[_, _], rfl, mg_mag h1 f1, mg_mag h2 f2, trivial⟩
end
end Go.Proofs.YtpiflllcjgpkhaaGreatDoor

/- The reference's integers, abstractly. -/
import Derived.Test.YtdieokoenhncfaaGreatDoorMem
import Derived.Test.YtdieokoenhncfaaGreatDoorR
set_option maxRecDepth 3000
namespace Go.Proofs.YtdieokoenhncfaaGreatDoor
open Go.RowKit Limb
theorem cZk {h : GH} {w : World} (hh : Holds h w) {v : Value} {l : List Nat} (hm : (mag l).p h v) : Mg w v l := by
 obtain ⟨⟨a, cap, h1, h2, h3, h4⟩, h5⟩ := hm
 refine ⟨⟨a, cap, h1, h2, h3, fun hx => ?_⟩, h5⟩
 have hl : l ≠ [] := by rintro rfl; exact hx rfl
 obtain ⟨b, off, e, hc⟩ := h4 hl
 have hlt : b < w.heap.size := by
  obtain ⟨x, hx⟩ := List.exists_mem_of_ne_nil l hl
  obtain ⟨j, hj⟩ := List.getElem?_of_mem hx
  exact hh.lt (hc j x hj)
 refine ⟨b, off, e, hlt, fun j u hu => ?_⟩
 simp only [aZs, List.getElem?_map, Option.map_eq_some_iff] at hu
 obtain ⟨x, hx, rfl⟩ := hu
 exact hh _ _ _ (hc j x hx)
theorem gZa {h : GH} {w w' : World} {a : Option Addr} {n cap : Nat} {l : List Nat} (hm : Mg w' (.slice a n cap) l) (hf : Fr w.heap.size a) : (mag l).p (pub w w' h) (.slice a n cap) := by
 obtain ⟨⟨a', cap', h1, h2, h3, h4⟩, h5⟩ := hm
 injection h1 with e1 e2 e3
 subst e1 e2 e3
 refine ⟨⟨a, cap, rfl, h2, h3, fun hl => ?_⟩, h5⟩
 obtain ⟨b, off, e, _, hc⟩ := h4 (fun e => hl (by have := congrArg List.length e; rw [bZr] at this; exact List.length_eq_zero_iff.1 this))
 refine ⟨b, off, e, fun j x hx => ?_⟩
 rw [jZt (hf _ e)]
 exact hc j _ (cZu hx)
theorem iZH {h : GH} {w : World} (hh : Holds h w) {v : Value} {s : Bool} {l : List Nat} (hz : (zR s l).p h v) : ∃ a cap, v = .agg #[.bool s, .slice a l.length cap] ∧ IsZ w s a l.length cap (zv s l) l.length := by
 obtain ⟨vs, rfl, ha⟩ := hz
 obtain ⟨u, x, rfl, hu, hx, _, _⟩ := ha.two
 have hu : u = .bool s := hu
 subst hu
 obtain ⟨⟨a, cap, e, hr⟩, hl⟩ := hx
 subst e
 exact ⟨a, cap, rfl, l, rfl, cZk hh ⟨⟨a, cap, rfl, hr⟩, hl⟩, Nat.le_refl _, rfl⟩
theorem can_zC {h : GH} {w w' : World} {s : Bool} {a : Option Addr} {n cap : Nat} {z : Int} (hc : Can w' s a n cap z) (hf : Fr w.heap.size a) : (zC z).p (pub w w' h) (.agg #[.bool s, .slice a n cap]) := by
 obtain ⟨rfl, _, h3⟩ := hc
 exact ⟨[.bool _, .slice a n cap], rfl, rfl, rfl, gZa h3 hf, rfl, trivial⟩
theorem dZG {h : GH} {w w' : World} {z : Int} {e : Ending} (hh : Holds h w) (hp : fZC z w e w') : dZE h w (zC z) e w' := by
 obtain ⟨s, a, n, cap, rfl, hc, hf, hb⟩ := hp
 exact bZU hh hb (can_zC hc hf)
theorem lZg {h : GH} {w w' : World} {l : List Nat} {e : Ending} (hl : Lm l) (hh : Holds h w) (hp : NewMg w l e w') : dZE h w (mag l) e w' := by
 obtain ⟨v, rfl, hown, hb⟩ := hp
 have hm := Mg.of_owns hown hl
 obtain ⟨a, cap, rfl, _⟩ := hm.form
 exact bZU hh hb (gZa hm (Fr.of_owns hown))
theorem ex_fn {h : GH} {w w' : World} {v : Value} {e : Ending} (hh : Holds h w) (he : e = .returned v) (hb : Below w.heap.size w w') : dZE h w (ex v) e w' := by subst he; exact bZU hh hb rfl
def rawM (x k : Nat) : Pd := ⟨fun h v => ∃ l, val l = x ∧ l.length ≤ k ∧ (mag l).p h v, fun _ _ _ hl ⟨l, h1, h2, h3⟩ => ⟨l, h1, h2, (mag l).mono _ _ _ hl h3⟩⟩
theorem dZw {h : GH} {w w' : World} {x k : Nat} {e : Ending} (hh : Holds h w) (hp : fZE x k w e w') : dZE h w (rawM x k) e w' := by
 obtain ⟨l, v, rfl, hown, hlm, hval, hlen, hb⟩ := hp
 have hm := Mg.of_owns hown hlm
 obtain ⟨a, cap, rfl, _⟩ := hm.form
 exact bZU hh hb ⟨l, hval, hlen, gZa hm (Fr.of_owns hown)⟩
section
variable (En : Ev)
theorem iZ5 (l : List Nat) (hl : l.length ≤ 1099511627776) : Fn Tryz.prog En 150 [mag l] (mag (digs (val l))) := by
 intro h w vs _ hh ha
 obtain ⟨v, rfl, hv⟩ := ha.one
 exact (dZR v l w (cZk hh hv) hl).mono fun _ _ hp => lZg (aZk _) hh hp
theorem kZc (neg : Bool) (l : List Nat) (hl : l.length ≤ 1099511627776) : Fn Tryz.prog En 123 [ex (.bool neg), mag l] (zC (zv neg l)) := by
 intro h w vs _ hh ha
 obtain ⟨v, u, rfl, hv, hu⟩ := ha.two
 have hv : v = .bool neg := hv
 subst hv
 exact (cZQ neg u l w (zv neg l) (cZk hh hu) hl rfl).mono fun _ _ hp => dZG hh hp
theorem eZR (n : Int) (h1 : -9223372036854775808 ≤ n) (h2 : n ≤ 9223372036854775807) : Fn Tryz.prog En 116 [ex (.int .i64 n)] (zC n) := by
 intro h w vs _ hh ha
 obtain ⟨v, rfl, hv⟩ := ha.one
 have hv : v = .int .i64 n := hv
 subst hv
 exact (iZg n w h1 h2).mono fun _ _ hp => dZG hh hp
theorem fabs (s : Bool) (l : List Nat) (hl : l.length ≤ 1099511627776) : Fn Tryz.prog En 151 [zR s l] (zC ((zv s l).natAbs : Int)) := by
 intro h w vs _ hh ha
 obtain ⟨v, rfl, hv⟩ := ha.one
 obtain ⟨a, cap, rfl, hz⟩ := iZH hh hv
 exact (kZF s a _ cap _ _ w hz hl).mono fun _ _ hp => dZG hh hp
theorem lZx (s : Bool) (l : List Nat) (hl : l.length ≤ 1099511627776) : Fn Tryz.prog En 119 [zR s l] (ex (.int .i64 (sg3 (zv s l)))) := by
 intro h w vs _ hh ha
 obtain ⟨v, rfl, hv⟩ := ha.one
 obtain ⟨a, cap, rfl, hz⟩ := iZH hh hv
 exact (iZD s a _ cap _ _ w hz hl).mono fun _ _ ⟨he, hb⟩ => ex_fn hh he hb
theorem mZj {h : GH} {w : World} (hh : Holds h w) {v : Value} {z : Int} (hz : (zC z).p h v) : ∃ a cap, v = .agg #[.bool (decide (z < 0)), .slice a (digs z.natAbs).length cap] ∧ Can w (decide (z < 0)) a (digs z.natAbs).length cap z := by
 obtain ⟨vs, rfl, ha⟩ := hz
 obtain ⟨u, x, rfl, hu, hx, _, _⟩ := ha.two
 have hu : u = .bool (decide (z < 0)) := hu
 subst hu
 obtain ⟨⟨a, cap, e, hr⟩, hl⟩ := hx
 subst e
 exact ⟨a, cap, rfl, rfl, rfl, cZk hh ⟨⟨a, cap, rfl, hr⟩, hl⟩⟩
theorem fsame (z z' : Int) (hk : sz z ≤ 1073741824) (hk' : sz z' ≤ 1073741824) : Fn Tryz.prog En 65 [zC z, zC z'] (ex (.bool (decide (z = z')))) := by
 intro h w vs _ hh ha
 obtain ⟨v, u, rfl, hv, hu⟩ := ha.two
 obtain ⟨a, cap, rfl, hz⟩ := mZj hh hv
 obtain ⟨a', cap', rfl, hz'⟩ := mZj hh hu
 exact (iZE _ a _ cap z _ a' _ cap' z' w hz hz' hk hk').mono fun _ _ ⟨he, hb⟩ => ex_fn hh he hb
theorem fdivide (x y : Nat) (hd : DivOK x y) : Fn Tryz.prog En 167 [mag (digs x), mag (digs y)] (tupP [mag (digs (x / y)), mag (digs (x % y))]) := by
 intro h w vs _ hh ha
 obtain ⟨v, u, rfl, hv, hu⟩ := ha.two
 refine (hd w v u (cZk hh hv) (cZk hh hu)).mono ?_
 rintro e w' ⟨a, n, cap, a', n', cap', rfl, h1, h2, rfl, rfl, f1, f2, hb⟩
 exact bZU hh hb ⟨[_, _], rfl, gZa h1 f1, gZa h2 f2, trivial⟩
end
end Go.Proofs.YtdieokoenhncfaaGreatDoor

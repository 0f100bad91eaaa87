/- The reference's integers, abstractly. -/
import Derived.Test.YtfmjdlogjmofbaaGreatDoorMem
import Derived.Test.YtfmjdlogjmofbaaGreatDoorR
import Derived.Test.YtfmjdlogjmofbaaGreatDoorW
set_option maxRecDepth 3000
namespace Go.Proofs.YtfmjdlogjmofbaaGreatDoor
open Go.RowKit Limb
theorem cZJ {h : GH} {w : World} (hh : Holds h w) {v : Value} {l : List Nat} (hm : (mag l).p h v) : Mg w v l := by
 obtain ⟨⟨a, cap, h1, h2, h3, h4⟩, h5⟩ := hm
 refine ⟨⟨a, cap, h1, h2, h3, fun hx => ?_⟩, h5⟩
 have hl : l ≠ [] := by rintro rfl; exact hx rfl
 obtain ⟨b, off, e, hc⟩ := h4 hl
 have hlt : b < w.heap.size := by
  obtain ⟨x, hx⟩ := List.exists_mem_of_ne_nil l hl
  obtain ⟨j, hj⟩ := List.getElem?_of_mem hx
  exact hh.lt (hc j x hj)
 refine ⟨b, off, e, hlt, fun j u hu => ?_⟩
 simp only [aZn, List.getElem?_map, Option.map_eq_some_iff] at hu
 obtain ⟨x, hx, rfl⟩ := hu
 exact hh _ _ _ (hc j x hx)
theorem hZI {h : GH} {w w' : World} {a : Option Addr} {n cap : Nat} {l : List Nat} (hm : Mg w' (.slice a n cap) l) (hf : Fr w.heap.size a) : (mag l).p (pub w w' h) (.slice a n cap) := by
 obtain ⟨⟨a', cap', h1, h2, h3, h4⟩, h5⟩ := hm
 injection h1 with e1 e2 e3
 subst e1 e2 e3
 refine ⟨⟨a, cap, rfl, h2, h3, fun hl => ?_⟩, h5⟩
 obtain ⟨b, off, e, _, hc⟩ := h4 (fun e => hl (by have := congrArg List.length e; rw [bZA] at this; exact List.length_eq_zero_iff.1 this))
 refine ⟨b, off, e, fun j x hx => ?_⟩
 rw [lZW (hf _ e)]
 exact hc j _ (cZY hx)
theorem lZk {h : GH} {w : World} (hh : Holds h w) {v : Value} {s : Bool} {l : List Nat} (hz : (zR s l).p h v) : ∃ a cap, v = .agg #[.bool s, .slice a l.length cap] ∧ IsZ w s a l.length cap (zv s l) l.length := by
 obtain ⟨vs, rfl, ha⟩ := hz
 obtain ⟨u, x, rfl, hu, hx, _, _⟩ := ha.two
 have hu : u = .bool s := hu
 subst hu
 obtain ⟨⟨a, cap, e, hr⟩, hl⟩ := hx
 subst e
 exact ⟨a, cap, rfl, l, rfl, cZJ hh ⟨⟨a, cap, rfl, hr⟩, hl⟩, Nat.le_refl _, rfl⟩
theorem can_zC {h : GH} {w w' : World} {s : Bool} {a : Option Addr} {n cap : Nat} {z : Int} (hc : Can w' s a n cap z) (hf : Fr w.heap.size a) : (zC z).p (pub w w' h) (.agg #[.bool s, .slice a n cap]) := by
 obtain ⟨rfl, _, h3⟩ := hc
 exact ⟨[.bool _, .slice a n cap], rfl, rfl, rfl, hZI h3 hf, rfl, trivial⟩
theorem eZN {h : GH} {w w' : World} {z : Int} {e : Ending} (hh : Holds h w) (hp : hZf z w e w') : eZL h w (zC z) e w' := by
 obtain ⟨s, a, n, cap, rfl, hc, hf, hb⟩ := hp
 exact bZR hh hb (can_zC hc hf)
theorem oZ3 {h : GH} {w w' : World} {l : List Nat} {e : Ending} (hl : Lm l) (hh : Holds h w) (hp : NewMg w l e w') : eZL h w (mag l) e w' := by
 obtain ⟨v, rfl, hown, hb⟩ := hp
 have hm := Mg.of_owns hown hl
 obtain ⟨a, cap, rfl, _⟩ := hm.form
 exact bZR hh hb (hZI hm (Fr.of_owns hown))
theorem ex_fn {h : GH} {w w' : World} {v : Value} {e : Ending} (hh : Holds h w) (he : e = .returned v) (hb : Below w.heap.size w w') : eZL h w (ex v) e w' := by subst he; exact bZR hh hb rfl
def rawM (x k : Nat) : Pd := ⟨fun h v => ∃ l, val l = x ∧ l.length ≤ k ∧ (mag l).p h v, fun _ _ _ hl ⟨l, h1, h2, h3⟩ => ⟨l, h1, h2, (mag l).mono _ _ _ hl h3⟩⟩
theorem eZs {h : GH} {w w' : World} {x k : Nat} {e : Ending} (hh : Holds h w) (hp : hZh x k w e w') : eZL h w (rawM x k) e w' := by
 obtain ⟨l, v, rfl, hown, hlm, hval, hlen, hb⟩ := hp
 have hm := Mg.of_owns hown hlm
 obtain ⟨a, cap, rfl, _⟩ := hm.form
 exact bZR hh hb ⟨l, hval, hlen, hZI hm (Fr.of_owns hown)⟩
section
variable (En : Ev)
theorem fZI (l : List Nat) (hl : l.length ≤ 1099511627776) : Fn Tryz.prog En 60 [mag l] (mag (digs (val l))) := by
 intro h w vs _ hh ha
 obtain ⟨v, rfl, hv⟩ := ha.one
 exact (fZa v l w (cZJ hh hv) hl).mono fun _ _ hp => oZ3 (aZg _) hh hp
theorem mZS (neg : Bool) (l : List Nat) (hl : l.length ≤ 1099511627776) : Fn Tryz.prog En 123 [ex (.bool neg), mag l] (zC (zv neg l)) := by
 intro h w vs _ hh ha
 obtain ⟨v, u, rfl, hv, hu⟩ := ha.two
 have hv : v = .bool neg := hv
 subst hv
 exact (dZN neg u l w (zv neg l) (cZJ hh hu) hl rfl).mono fun _ _ hp => eZN hh hp
theorem cZ5 (n : Int) (h1 : -9223372036854775808 ≤ n) (h2 : n ≤ 9223372036854775807) : Fn Tryz.prog En 45 [ex (.int .i64 n)] (zC n) := by
 intro h w vs _ hh ha
 obtain ⟨v, rfl, hv⟩ := ha.one
 have hv : v = .int .i64 n := hv
 subst hv
 exact (kZ3 n w h1 h2).mono fun _ _ hp => eZN hh hp
theorem fabs (s : Bool) (l : List Nat) (hl : l.length ≤ 1099511627776) : Fn Tryz.prog En 151 [zR s l] (zC ((zv s l).natAbs : Int)) := by
 intro h w vs _ hh ha
 obtain ⟨v, rfl, hv⟩ := ha.one
 obtain ⟨a, cap, rfl, hz⟩ := lZk hh hv
 exact (nZQ s a _ cap _ _ w hz hl).mono fun _ _ hp => eZN hh hp
theorem kZY (s : Bool) (l : List Nat) (hl : l.length ≤ 1099511627776) : Fn Tryz.prog En 62 [zR s l] (ex (.int .i64 (sg3 (zv s l)))) := by
 intro h w vs _ hh ha
 obtain ⟨v, rfl, hv⟩ := ha.one
 obtain ⟨a, cap, rfl, hz⟩ := lZk hh hv
 exact (lZf s a _ cap _ _ w hz hl).mono fun _ _ ⟨he, hb⟩ => ex_fn hh he hb
theorem fdivide (x y : Nat) (hd : DivOK x y) : Fn Tryz.prog En 161 [mag (digs x), mag (digs y)] (tupP [mag (digs (x / y)), mag (digs (x % y))]) := by
 intro h w vs _ hh ha
 obtain ⟨v, u, rfl, hv, hu⟩ := ha.two
 refine (hd w v u (cZJ hh hv) (cZJ hh hu)).mono ?_
 rintro e w' ⟨a, n, cap, a', n', cap', rfl, h1, h2, rfl, rfl, f1, f2, hb⟩
 exact bZR hh hb ⟨[_, _], rfl, hZI h1 f1, hZI h2 f2, trivial⟩
end
end Go.Proofs.YtfmjdlogjmofbaaGreatDoor

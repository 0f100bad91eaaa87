/- Boxes whose cells name boxes; boxes get other numbers; families of eight rows. For any program. -/
import Derived.Test.YtfmjdlogjmofbaaGreatDoorMem
import Derived.Test.YtfmjdlogjmofbaaGreatDoorW
set_option maxRecDepth 3000
namespace Go.Proofs.YtfmjdlogjmofbaaGreatDoor
open Go.RowKit Limb
def ownP (r o len cap : Nat) : Pd := ⟨fun _ v => ∃ c, v = .slice (some ⟨r, o, none⟩) len c ∧ cap ≤ c ∧ c ≤ maxLen, fun _ _ _ _ h => h⟩
instance (r o len cap : Nat) : C1 (ownP r o len cap) := ⟨fun _ _ ⟨_, h, _⟩ => by rw [h]; rfl⟩
def codA (r k len : Nat) : Value := match len with
 | 0 => .slice none 0 0
 | l + 1 => .slice (some ⟨r, k, none⟩) (l + 1) 0
def appP (r k len : Nat) : Pd := ex (codA r k len)
instance (r k len : Nat) : C1 (appP r k len) := ⟨fun _ _ h => by rw [show _ = _ from h]; cases len <;> rfl⟩
class Flat (p : Pd) : Prop where
 flat : ∀ h v, p.p h v → ∀ r o l c, v ≠ .slice (some ⟨r, o, none⟩) l c
instance (k : IntKind) (n : Int) : Flat (ex (.int k n)) := ⟨fun _ _ h _ _ _ _ e => by rw [show _ = _ from h] at e; cases e⟩
instance (b : Bool) : Flat (ex (.bool b)) := ⟨fun _ _ h _ _ _ _ e => by rw [show _ = _ from h] at e; cases e⟩
instance : Flat (ex (.slice none 0 0)) := ⟨fun _ _ h _ _ _ _ e => by rw [show _ = _ from h] at e; cases e⟩
theorem bZM {β : Nat → Nat} {v : Value} (h : ∀ r o l c, v ≠ .slice (some ⟨r, o, none⟩) l c) : tr β v = v := by
 unfold tr
 split
 ·exact (h _ _ _ _ rfl).elim
 ·rfl
theorem bZp {β : Nat → Nat} {r o l c : Nat} (h : ¬ grows r) : tr β (.slice (some ⟨r, o, none⟩) l c) = .slice (some ⟨β r, o, none⟩) l c := by
 unfold tr; simp only; rw [if_neg h]
theorem eZm {β : Nat → Nat} {r o l c : Nat} (h : grows r) : tr β (.slice (some ⟨r, o, none⟩) l c) = .slice (some ⟨β r, 0, none⟩) l (β (r + 250) / o) := by
 unfold tr; simp only; rw [if_pos h]
theorem fZQ {β : Nat → Nat} {v : Value} (h : v.oneCell' = true) : (tr β v).oneCell' = true := by
 unfold tr
 split
 ·split <;> rfl
 ·exact h
theorem Inv.boxK {En : Ev} {w0 : World} {h0 : GH} {c : Cx} {h : GH} {β : Nat → Nat} {bx : Bx} {w : World} (hi : Inv En w0 h0 c h β bx w) {i : Nat} {ps : List Pd} (hp : look bx i = some ps) (hps : ps ≠ []) (hl : lk i = true) :
  ∃ (vs rest : List Value) (T : TypeId), w.heap[β i]? = some (.cells (vs.map (tr β) ++ rest).toArray T (0, 0)) ∧ All2 h ps vs ∧ ∀ v ∈ vs, lref β bx v := by
 obtain ⟨_, _, vs, rest, T, h3, h4, _, h6⟩ := hi.box i ps hp hps
 unfold tI at h3
 rw [hl] at h3
 exact ⟨vs, rest, T, h3, h4, h6 hl⟩
section
variable {P : Program} {En : Ev} {n : Nat} {sl : Sl} {bx : Bx} {dst : Option Tmp} {ty : TypeId} {pos : String} {after : Array Edge} {guard : Option (Nat × Bool)}
theorem iZ5 {T : TypeId} {x : Operand} {b o : Nat} {ps : List Pd} {p : Pd} {sd : SD} {rb : List Nat} [ht : COne P T] (hx : osd sl x = some (.ptr b o)) (hb : look bx b = some ps) (hp : ps[o]? = some p) (hl : lk b = true) (hrb : b ∈ rb)
  (H : ∀ h β bx' v, (∀ i ∈ rb, look bx' i = look bx i) → p.p h v → v.oneCell' = true → lref β bx' v → sd.ok h β (tr β v) ∧ sd.live bx') :
  RT P En n ⟨dst, .load T x, ty, pos, after, guard⟩ sl bx ⟨sd, rb, []⟩ := by
 intro sl' bx' h1 h2 _ w0 h0 c h β a w Q hi hs
 have hx' : a.eval x = .pointer (some ⟨β b, o, none⟩) := (aZI hs (x := x) (sd := .ptr b o) (by rw [h1 x (by simp [Op.operands])]; exact hx)).1
 obtain ⟨vs, rest, T', hg, ha, hr⟩ := hi.boxK (by rw [h2 b hrb]; exact hb) (by rintro rfl; simp at hp) hl
 obtain ⟨v, hv, hpv, hv1⟩ := ha.get hp
 obtain ⟨d, hd1, hd2, _⟩ := ht.ok
 have hc : w.cell? ⟨β b, o, none⟩ = some (tr β v) := by
  rw [cell_of_row w _ o _ T' _ hg]
  have hlt := (List.getElem?_eq_some_iff.1 hv).1
  simp only [List.getElem?_toArray]
  rw [List.getElem?_append_left (by simpa using hlt), List.getElem?_map, hv]
  rfl
 obtain ⟨g1, g2⟩ := H h β bx' v h2 hpv hv1 (hr v (List.mem_of_getElem? hv))
 unfold Oper.wp
 have : (execOp a.eval ⟨dst, .load T x, ty, pos, after, guard⟩).run P w = .ok (.value (tr β v)) w := by
  simp only [execOp, hx', Instr.loadAt, Instr.sureAddr, loadVar, Sem.run_bind, Sem.run_pure, Result.andThen_ok, cZE hd1, hd2]
  simp [load, Sem.run, hc]
 rw [this]
 exact ⟨tr β v, h, β, rfl, hi, Le.refl _, fun _ _ => rfl, g1, g2⟩
theorem aZx {T : TypeId} {x : Operand} {b o r o' len cap : Nat} {ps : List Pd} [COne P T] (hx : osd sl x = some (.ptr b o)) (hb : look bx b = some ps) (hp : ps[o]? = some (ownP r o' len cap)) (hg : ¬ grows r) (hl : lk b = true := by rfl) :
  RT P En n ⟨dst, .load T x, ty, pos, after, guard⟩ sl bx ⟨.own r o' len cap, [b], []⟩ :=
 iZ5 hx hb hp hl (List.mem_singleton.2 rfl) fun h β bx' v _ ⟨c, hv, h1, h2⟩ _ hr => by
  subst hv
  rw [bZp hg]
  exact ⟨⟨c, rfl, h1, h2⟩, (hr _ _ _ _ rfl).1⟩
theorem jZ0 {T : TypeId} {x : Operand} {b o r k len : Nat} {ps : List Pd} [COne P T] (hx : osd sl x = some (.ptr b o)) (hb : look bx b = some ps) (hp : ps[o]? = some (appP r k len)) (h1 : look bx r ≠ none) (h2 : look bx (r + 250) ≠ none) (hg : grows r := by unfold grows; omega) (hl : lk b = true := by rfl) :
  RT P En n ⟨dst, .load T x, ty, pos, after, guard⟩ sl bx ⟨.app r k len, [b, r, r + 250], []⟩ :=
 iZ5 hx hb hp hl (by simp) fun h β bx' v hag hv _ hr => by
  have hv : v = codA r k len := hv
  subst hv
  refine ⟨?_, by rw [hag r (by simp)]; exact h1, by rw [hag _ (by simp)]; exact h2⟩
  cases len with
  | zero => exact .inl ⟨bZM (by intro r o l c e; cases e), rfl⟩
  | succ len =>
   obtain ⟨_, g⟩ := hr _ _ _ _ rfl
   obtain ⟨_, g2, g3, g4, g5, g6⟩ := g hg
   exact .inr ⟨_, eZm hg, g3, g4, g5, g6⟩
theorem bZZ {T : TypeId} {x : Operand} {b o : Nat} {ps : List Pd} {p : Pd} [COne P T] [hf : Flat p] (hx : osd sl x = some (.ptr b o)) (hb : look bx b = some ps) (hp : ps[o]? = some p) (hl : lk b = true := by rfl) :
  RT P En n ⟨dst, .load T x, ty, pos, after, guard⟩ sl bx ⟨.one p, [b], []⟩ :=
 iZ5 hx hb hp hl (List.mem_singleton.2 rfl) fun h β bx' v _ hv _ _ => by
  rw [bZM (hf.flat h v hv)]
  exact ⟨hv, trivial⟩
end
theorem Inv.storeK {En : Ev} {w0 : World} {h0 : GH} {c : Cx} {h : GH} {β : Nat → Nat} {bx : Bx} {w : World} (hi : Inv En w0 h0 c h β bx w) {i : Nat} {ps : List Pd} (hp : look bx i = some ps) (hps : ps ≠ []) (hlk : lk i = true) {q : Pd} {v : Value} (hq : q.p h v) (hv1 : v.oneCell' = true) (hr : lref β bx v) (o : Nat) (hb : o < ps.length) :
  Inv En w0 h0 c h β ((i, ps.set o q) :: bx) (w.setCells (β i) o [tr β v]) := by
 obtain ⟨h1, h2, vs, rest, T, h3, h4, h5, h6⟩ := hi.box i ps hp hps
 have hvl := h4.length
 have hne : ∀ j rs, look ((i, ps.set o q) :: bx) j = some rs → rs ≠ [] → ∃ rs', look bx j = some rs' ∧ rs' ≠ [] := fun j rs hj hr => by
  rw [aZc] at hj
  by_cases e : i = j
  ·subst e; exact ⟨ps, hp, hps⟩
  ·rw [if_neg e] at hj; exact ⟨rs, hj, hr⟩
 have live : ∀ r, look bx r ≠ none → look ((i, ps.set o q) :: bx) r ≠ none := fun r hr => by rw [aZc]; split <;> simp; exact hr
 refine ⟨hi.env, fun b o' v e => ?_, hi.le0, hi.fresh, bZW (by rcases Nat.lt_or_ge i 1000 with h | h; exact .inl (h1.1 h); exact .inr ⟨i, h1.2 h, hi.pin i h⟩) _ _ _ hi.below, hi.dis, hi.pin, fun j rs hj hr => ?_, fun j k rs ss hj hr hk hs e => ?_⟩
 ·have hb : b ≠ β i := by rintro rfl; rw [h2 o'] at e; cases e
  rw [World.cell?_of_block (w := w) (a := ⟨b, o', none⟩) (aZ1 hb _ _ _)]
  exact hi.holds b o' v e
 ·rw [aZc] at hj
  by_cases e : i = j
  ·subst e
   rw [if_pos rfl] at hj
   cases hj
   refine ⟨h1, h2, vs.set o v, rest, T, ?_, h4.set o hq hv1, fun hg => by rw [← h5 hg]; simp, fun hl u hu => ?_⟩
   ·rw [bZJ [tr β v] o w _ T _ h3]
    have : putL (tI i β vs ++ rest) o [tr β v] = tI i β (vs.set o v) ++ rest := by
     unfold tI
     rw [hlk]
     show (vs.map (tr β) ++ rest).set o (tr β v) = (vs.set o v).map (tr β) ++ rest
     rw [List.set_append_left _ _ (by simp; omega), List.map_set]
    rw [this]
   ·rcases List.mem_or_eq_of_mem_set hu with hu | rfl
    ·exact (cZt (h6 hl u hu) fun r hr => ⟨live r hr, rfl⟩).1
    ·exact (cZt hr fun r hr => ⟨live r hr, rfl⟩).1
  ·rw [if_neg e] at hj
   obtain ⟨g1, g2, us', rs', T', g3, g4, g5, g6⟩ := hi.box j rs hj hr
   refine ⟨g1, g2, us', rs', T', ?_, g4, g5, cZX g6 live⟩
   rw [aZ1 (fun hh => e (hi.inj i j _ _ hp hps hj hr hh.symm))]
   exact g3
 ·obtain ⟨rs', a1, a2⟩ := hne j rs hj hr
  obtain ⟨ss', b1, b2⟩ := hne k ss hk hs
  exact hi.inj j k _ _ a1 a2 b1 b2 e
section
variable {P : Program} {En : Ev} {n : Nat} {sl : Sl} {bx : Bx} {dst : Option Tmp} {ty : TypeId} {pos : String} {after : Array Edge} {guard : Option (Nat × Bool)}
theorem jZz {T : TypeId} {x y : Operand} {b o : Nat} {ps rs : List Pd} {q : Pd} {s : SD} [ht : COne P T] (hx : osd sl x = some (.ptr b o)) (hy : osd sl y = some s) (hb : look bx b = some ps) (ho : o < ps.length) (hl : lk b = true) (hr : ps.set o q = rs)
  (H : ∀ h β bx' u, s.ok h β u → s.live bx' → ∃ v, q.p h v ∧ v.oneCell' = true ∧ u = tr β v ∧ lref β bx' v) :
  RT P En n ⟨dst, .store T x y, ty, pos, after, guard⟩ sl bx ⟨.one (ex undef), [b], [(b, rs)]⟩ := by
 subst hr
 intro sl' bx' h1 h2 _ w0 h0 c h β a w Q hi hs
 have hx' : a.eval x = .pointer (some ⟨β b, o, none⟩) := (aZI hs (x := x) (sd := .ptr b o) (by rw [h1 x (by simp [Op.operands])]; exact hx)).1
 obtain ⟨hy1, hy2⟩ := aZI hs (x := y) (sd := s) (by rw [h1 y (by simp [Op.operands])]; exact hy)
 obtain ⟨v, k1, k2, k3, k4⟩ := H h β bx' _ hy1 hy2
 have hb' : look bx' b = some ps := by rw [h2 b (by simp)]; exact hb
 have hps : ps ≠ [] := by rintro rfl; simp at ho
 obtain ⟨vs, rest, T', hg, ha, _⟩ := hi.boxK hb' hps hl
 have hlen := ha.length
 have h1c : (a.eval y).oneCell' = true := by rw [k3]; exact fZQ k2
 have hth := fZd (k := 1) hg (show o + 1 ≤ (vs.map (tr β)).length by simp; omega)
 obtain ⟨hs1, hs2⟩ := hth 0 oM
 obtain ⟨d, hd1, hd2, hd3⟩ := ht.ok
 have hrun : (execOp a.eval ⟨dst, .store T x y, ty, pos, after, guard⟩).run P w = .ok .skip (w.setCells (β b) o [a.eval y]) := by
  have c1 : ∀ j, j < [a.eval y].length → (w.cell? ⟨β b, o + 0 + j, none⟩).isSome = true := by
   intro j hj
   have : j = 0 := by simpa using hj
   subst this
   exact hs1
  have c2 : ∀ j, j < [a.eval y].length → w.frozen? ⟨β b, o + 0 + j, none⟩ = false := by
   intro j hj
   have : j = 0 := by simpa using hj
   subst this
   exact hs2
  have hsc := run_storeCells_cells (P := P) (β b) o [a.eval y] 0 w c1 c2 (fun v hv => by simp at hv; rw [hv]; exact h1c)
  cases hq : P.info? T with
  | none => rw [hq] at hd3; cases hd3
  | some i =>
   rw [hq] at hd3
   have hi1 : i.size = 1 := by simpa using hd3
   simp only [execOp, hx', Instr.storeAt, Instr.sureAddr, storeVar, Sem.run_bind, Sem.run_pure, Result.andThen_ok, bZG h1c, sizeOf, run_typeInfo _ hq, hi1]
   simp only [List.size_toArray, List.length_singleton, ne_eq, not_true_eq_false, if_false]
   simp only [Nat.add_zero] at hsc
   rw [hsc]
   rfl
 unfold Oper.wp
 rw [hrun, k3]
 exact ⟨undef, h, β, rfl, hi.storeK hb' hps hl k1 k2 k4 o ho, Le.refl _, fun _ _ => rfl, rfl, trivial⟩
theorem fZk {T : TypeId} {x y : Operand} {b o r o' len cap : Nat} {ps rs : List Pd} [COne P T] (hx : osd sl x = some (.ptr b o)) (hy : osd sl y = some (.own r o' len cap)) (hb : look bx b = some ps) (ho : o < ps.length) (hg : ¬ grows r) (hr : ps.set o (ownP r o' len cap) = rs) (hl : lk b = true := by rfl) :
  RT P En n ⟨dst, .store T x y, ty, pos, after, guard⟩ sl bx ⟨.one (ex undef), [b], [(b, rs)]⟩ :=
 jZz hx hy hb ho hl hr fun h β bx' u ⟨c, hu, h1, h2⟩ hlv => ⟨_, ⟨c, rfl, h1, h2⟩, rfl, by rw [hu, bZp hg], fun r' o'' l c' e => by cases e; exact ⟨hlv, fun h => absurd h hg⟩⟩
theorem dZV {T : TypeId} {x y : Operand} {b o r k len : Nat} {ps rs : List Pd} [COne P T] (hx : osd sl x = some (.ptr b o)) (hy : osd sl y = some (.app r k len)) (hb : look bx b = some ps) (ho : o < ps.length) (hk : Nat.blt 0 k = true) (hr : ps.set o (appP r k len) = rs) (hg : grows r := by unfold grows; omega) (hl : lk b = true := by rfl) :
  RT P En n ⟨dst, .store T x y, ty, pos, after, guard⟩ sl bx ⟨.one (ex undef), [b], [(b, rs)]⟩ :=
 jZz hx hy hb ho hl hr fun h β bx' u hu hlv => by
  have hk : 0 < k := Nat.le_of_ble_eq_true hk
  refine ⟨codA r k len, rfl, by cases len <;> rfl, ?_, ?_⟩
  ·rcases hu with ⟨rfl, rfl⟩ | ⟨cap, rfl, h1, h2, h3, h4⟩
   ·exact (bZM (by intro r o l c e; cases e)).symm
   ·cases len with
    | zero => omega
    | succ len =>
     show _ = tr β (.slice (some ⟨r, k, none⟩) (len + 1) 0)
     rw [eZm hg, ← h4, Nat.mul_div_cancel _ hk]
  ·intro r' o'' l c' e
   rcases hu with ⟨rfl, rfl⟩ | ⟨cap, rfl, h1, h2, h3, h4⟩
   ·cases e
   ·cases len with
    | zero => omega
    | succ len =>
     cases e
     exact ⟨hlv.1, fun _ => ⟨hlv.2, hk, h1, by rw [← h4, Nat.mul_div_cancel _ hk]; exact h2, by rw [← h4, Nat.mul_div_cancel _ hk]; exact h3, by rw [← h4, Nat.mul_div_cancel _ hk]⟩⟩
end
def rws (d : Nat) (f : Nat → List Pd) : Bx := [(d, f 0), (d + 1, f 1), (d + 2, f 2), (d + 3, f 3), (d + 4, f 4), (d + 5, f 5), (d + 6, f 6), (d + 7, f 7)]
def ids (d : Nat) : List Nat := [d, d + 1, d + 2, d + 3, d + 4, d + 5, d + 6, d + 7]
def Fam (bx : Bx) (d : Nat) (f : Nat → List Pd) : Prop := ∀ j, j < 8 → look bx (d + j) = some (f j)
theorem Fam.mk {bx : Bx} {d : Nat} {f : Nat → List Pd} (h0 : look bx d = some (f 0)) (h1 : look bx (d + 1) = some (f 1)) (h2 : look bx (d + 2) = some (f 2)) (h3 : look bx (d + 3) = some (f 3)) (h4 : look bx (d + 4) = some (f 4)) (h5 : look bx (d + 5) = some (f 5)) (h6 : look bx (d + 6) = some (f 6)) (h7 : look bx (d + 7) = some (f 7)) : Fam bx d f := by
 intro j hj
 match j, hj with
 | 0, _ => exact h0
 | 1, _ => exact h1
 | 2, _ => exact h2
 | 3, _ => exact h3
 | 4, _ => exact h4
 | 5, _ => exact h5
 | 6, _ => exact h6
 | 7, _ => exact h7
theorem bZ4 {d j : Nat} (h : j < 8) : d + j ∈ ids d := by
 unfold ids
 match j, h with
 | 0, _ => simp
 | 1, _ => simp
 | 2, _ => simp
 | 3, _ => simp
 | 4, _ => simp
 | 5, _ => simp
 | 6, _ => simp
 | 7, _ => simp
theorem mem_ids {d i : Nat} (h : i ∈ ids d) : ∃ j, j < 8 ∧ i = d + j := by
 unfold ids at h
 simp only [List.mem_cons, List.not_mem_nil, or_false] at h
 rcases h with h | h | h | h | h | h | h | h
 ·exact ⟨0, oM, h⟩
 ·exact ⟨1, oM, h⟩
 ·exact ⟨2, oM, h⟩
 ·exact ⟨3, oM, h⟩
 ·exact ⟨4, oM, h⟩
 ·exact ⟨5, oM, h⟩
 ·exact ⟨6, oM, h⟩
 ·exact ⟨7, oM, h⟩
theorem dZS (d : Nat) (f : Nat → List Pd) : (rws d f).map (·.1) = ids d := rfl
theorem bZV {d : Nat} {f : Nat → List Pd} {bx : Bx} (i : Nat) : look (rws d f ++ bx) i = if d ≤ i ∧ i < d + 8 then some (f (i - d)) else look bx i := by
 by_cases h : d ≤ i ∧ i < d + 8
 ·rw [if_pos h]
  obtain ⟨j, hj, rfl⟩ : ∃ j, j < 8 ∧ i = d + j := ⟨i - d, oM, oM⟩
  rw [Nat.add_sub_cancel_left]
  exact (Fam.mk (bx := rws d f ++ bx) (d := d) (f := f) (by simp [rws, aZc]) (by simp [rws, aZc]) (by simp [rws, aZc]) (by simp [rws, aZc]) (by simp [rws, aZc]) (by simp [rws, aZc]) (by simp [rws, aZc]) (by simp [rws, aZc])) j hj
 ·rw [if_neg h, aZ0, dZq]
  ·simp
  ·rw [dZS]
   intro hm
   obtain ⟨j, hj, rfl⟩ := mem_ids hm
   omega
theorem eZ3 (d : Nat) (f : Nat → List Pd) (bx : Bx) : Fam (rws d f ++ bx) d f := fun j hj => by
 rw [bZV, if_pos oM, Nat.add_sub_cancel_left]
def updF (f : Nat → List Pd) (r : Nat) (x : List Pd) : Nat → List Pd := fun j => if j = r then x else f j
theorem dZA (f : Nat → List Pd) (r : Nat) (x : List Pd) : updF f r x r = x := if_pos rfl
theorem eZl {f : Nat → List Pd} {r j : Nat} {x : List Pd} (h : j ≠ r) : updF f r x j = f j := if_neg h
theorem hZL {d r : Nat} {f : Nat → List Pd} {bx : Bx} {x : List Pd} (hf : Fam bx d f) (hr : r < 8) (i : Nat) : look ([(d + r, x)] ++ bx) i = look (rws d (updF f r x) ++ bx) i := by
 rw [bZV, List.singleton_append, aZc]
 by_cases h : d ≤ i ∧ i < d + 8
 ·rw [if_pos h]
  obtain ⟨j, hj, rfl⟩ : ∃ j, j < 8 ∧ i = d + j := ⟨i - d, oM, oM⟩
  rw [Nat.add_sub_cancel_left]
  by_cases e : j = r
  ·subst e; rw [if_pos rfl, dZA]
  ·rw [if_neg oM, eZl e]; exact hf j hj
 ·rw [if_neg h, if_neg oM]
section
variable {P : Program} {En : Ev} {n : Nat} {sl : Sl} {bx : Bx} {dst : Option Tmp} {ty : TypeId} {pos : String} {after : Array Edge} {guard : Option (Nat × Bool)}
theorem Tri.alikeW {o : Oper} {sd : SD} {rb rb' : List Nat} {wb wb' : Bx} (h : Tri P En n o sl bx ⟨sd, rb, wb⟩) (ha : ∀ i, look (wb ++ bx) i = look (wb' ++ bx) i) : Tri P En n o sl bx ⟨sd, rb', wb'⟩ := by
 intro w0 h0 c hh β a w Q hi hs
 refine Oper.wp_mono ?_ (h w0 h0 c hh β a w Q hi hs)
 rintro a' w' ⟨v, h', β', e, g1, g2, g3, g4, g5⟩
 exact ⟨v, h', β', e, g1.alike ha, g2, g3, g4, (SD.live_alike ha sd).1 g5⟩
def nolk (d : Nat) : Bool := (ids d).all (fun i => !lk i)
theorem dZI {d j : Nat} (h : nolk d = true) (hj : j < 8) : lk (d + j) = false := by
 have := List.all_eq_true.1 h _ (bZ4 hj)
 simpa using this
theorem oZp {T : TypeId} {x : Operand} {d r o : Nat} {f : Nat → List Pd} {p : Pd} [ht : COne P T] (hx : osd sl x = some (.ptr (d + r) o)) (hf : Fam bx d f) (hr : r < 8) (hp : (f r)[o]? = some p) (hl : nolk d = true := by rfl) :
  RT P En n ⟨dst, .load T x, ty, pos, after, guard⟩ sl bx ⟨.one p, ids d, []⟩ := fun sl' bx' h1 h2 _ =>
 jZw (P := P) (En := En) (n := n) o hx (hf r hr) ht.ok hp (dZI hl hr) sl' bx' h1 (fun b hb => by rw [List.mem_singleton.1 hb]; exact h2 _ (bZ4 hr)) (fun b hb => by cases hb)
theorem oZo {T : TypeId} {x : Operand} {d r o k : Nat} {f : Nat → List Pd} {qs : List Pd} [ht : CRow P T k] (hx : osd sl x = some (.ptr (d + r) o)) (hf : Fam bx d f) (hr : r < 8) (hk : o + k ≤ (f r).length) (hq : ((f r).drop o).take k = qs) (hl : nolk d = true := by rfl) :
  RT P En n ⟨dst, .load T x, ty, pos, after, guard⟩ sl bx ⟨.one (aggP qs), ids d, []⟩ := by
 subst hq
 exact fun sl' bx' h1 h2 _ => jZv (P := P) (En := En) (n := n) o hx (hf r hr) ht.ok (by rw [Nat.ble_eq]; exact hk) (dZI hl hr) sl' bx' h1 (fun b hb => by rw [List.mem_singleton.1 hb]; exact h2 _ (bZ4 hr)) (fun b hb => by cases hb)
theorem rf_set1 {T : TypeId} {x y : Operand} {d r o : Nat} {f : Nat → List Pd} {q : Pd} {rs : List Pd} [ht : COne P T] [C1 q] (hx : osd sl x = some (.ptr (d + r) o)) (hy : osd sl y = some (.one q)) (hf : Fam bx d f) (hr : r < 8) (ho : o < (f r).length) (hrs : (f r).set o q = rs) (hl : nolk d = true := by rfl) :
  RT P En n ⟨dst, .store T x y, ty, pos, after, guard⟩ sl bx ⟨.one (ex undef), ids d, rws d (updF f r rs)⟩ := by
 subst hrs
 refine fun sl' bx' h1 h2 h3 => Tri.alikeW (fZj (P := P) (En := En) (n := n) o hx hy (hf r hr) ht.ok (by rw [Nat.blt, Nat.ble_eq]; exact ho) (dZI hl hr) sl' bx' h1 (fun b hb => by rw [List.mem_singleton.1 hb]; exact h2 _ (bZ4 hr)) (fun b hb => ?_)) (hZL (fun j hj => (h2 _ (bZ4 hj)).trans (hf j hj)) hr)
 have hb : b = d + r := by simpa using hb
 rw [hb]; exact h2 _ (bZ4 hr)
theorem rf_setR {T : TypeId} {x y : Operand} {d r o k : Nat} {f : Nat → List Pd} {qs rs : List Pd} [ht : CRow P T k] (hx : osd sl x = some (.ptr (d + r) o)) (hy : osd sl y = some (.one (aggP qs))) (hf : Fam bx d f) (hr : r < 8) (hq : Nat.beq qs.length k = true) (ho : o + k ≤ (f r).length) (hrs : putL (f r) o qs = rs) (hpos : Nat.blt 0 k = true := by rfl) (hl : nolk d = true := by rfl) :
  RT P En n ⟨dst, .store T x y, ty, pos, after, guard⟩ sl bx ⟨.one (ex undef), ids d, rws d (updF f r rs)⟩ := by
 subst hrs
 refine fun sl' bx' h1 h2 h3 => Tri.alikeW (hZv (P := P) (En := En) (n := n) o hx hy (hf r hr) ht.ok hq (by rw [Nat.ble_eq]; exact ho) hpos (dZI hl hr) sl' bx' h1 (fun b hb => by rw [List.mem_singleton.1 hb]; exact h2 _ (bZ4 hr)) (fun b hb => ?_)) (hZL (fun j hj => (h2 _ (bZ4 hj)).trans (hf j hj)) hr)
 have hb : b = d + r := by simpa using hb
 rw [hb]; exact h2 _ (bZ4 hr)
end
def mvr (a s : Nat) : Nat → Nat := fun x => if x = a then s else if x = a + 250 then s + 250 else x
theorem aZF (a s : Nat) : mvr a s a = s := if_pos rfl
theorem cZa (a s : Nat) : mvr a s (a + 250) = s + 250 := by unfold mvr; rw [if_neg oM, if_pos rfl]
theorem aZ7 {a s x : Nat} (h : x ≠ a) (h2 : x ≠ a + 250) : mvr a s x = x := by unfold mvr; rw [if_neg h, if_neg h2]
def PMv (ρ : Nat → Nat) (s t : Bx) (p' p : Pd) : Prop := ∀ h β v', p'.p h v' → v'.oneCell' = true → lref β s v' → ∃ v, p.p h v ∧ v.oneCell' = true ∧ tr β v' = tr (fun i => β (ρ i)) v ∧ lref (fun i => β (ρ i)) t v
def PsMv (ρ : Nat → Nat) (s t : Bx) : List Pd → List Pd → Prop
 | [], [] => True
 | p' :: ps', p :: ps => PMv ρ s t p' p ∧ PsMv ρ s t ps' ps
 | _, _ => False
theorem PsMv.all {ρ : Nat → Nat} {s t : Bx} {h : GH} {β : Nat → Nat} : ∀ {ps' ps : List Pd} {vs' : List Value}, PsMv ρ s t ps' ps → All2 h ps' vs' → (∀ v ∈ vs', lref β s v) → ∃ vs, vs'.map (tr β) = vs.map (tr fun i => β (ρ i)) ∧ All2 h ps vs ∧ ∀ v ∈ vs, lref (fun i => β (ρ i)) t v
 | [], [], [], _, _, _ => ⟨[], rfl, trivial, fun _ h => by cases h⟩
 | p' :: ps', p :: ps, v' :: vs', ⟨a, b⟩, ⟨x, y, z⟩, hr => by
  obtain ⟨v, g1, g2, g3, g4⟩ := a h β v' x y (hr v' (List.mem_cons_self ..))
  obtain ⟨vs, k1, k2, k3⟩ := PsMv.all b z (fun v hv => hr v (List.mem_cons_of_mem _ hv))
  refine ⟨v :: vs, by rw [List.map_cons, List.map_cons, k1, g3], ⟨g1, g2, k2⟩, fun u hu => ?_⟩
  rcases List.mem_cons.1 hu with rfl | hu
  ·exact g4
  ·exact k3 u hu
 | [], [], _ :: _, _, h, _ => h.elim
 | _ :: _, _ :: _, [], _, h, _ => h.elim
 | [], _ :: _, _, h, _, _ => h.elim
 | _ :: _, [], _, h, _, _ => h.elim
def PsFl : List Pd → List Pd → Prop
 | [], [] => True
 | p' :: ps', p :: ps => (PLe p' p ∧ Flat p) ∧ PsFl ps' ps
 | _, _ => False
theorem PsFl.all {h : GH} {β : Nat → Nat} {t : Bx} : ∀ {ps' ps : List Pd} {vs : List Value}, PsFl ps' ps → All2 h ps' vs → vs = vs.map (tr β) ∧ All2 h ps vs ∧ ∀ v ∈ vs, lref β t v
 | [], [], [], _, _ => ⟨rfl, trivial, fun _ h => by cases h⟩
 | p' :: ps', p :: ps, v :: vs, ⟨⟨a, f⟩, b⟩, ⟨x, y, z⟩ => by
  obtain ⟨k1, k2, k3⟩ := PsFl.all (β := β) (t := t) b z
  have hf := f.flat h v (a _ _ x)
  refine ⟨by rw [List.map_cons, bZM hf, ← k1], ⟨a _ _ x, y, k2⟩, fun u hu => ?_⟩
  rcases List.mem_cons.1 hu with rfl | hu
  ·exact fun r o l c e => absurd e (hf r o l c)
  ·exact k3 u hu
 | [], [], _ :: _, _, h => h.elim
 | _ :: _, _ :: _, [], _, h => h.elim
 | [], _ :: _, _, h, _ => h.elim
 | _ :: _, [], _, h, _ => h.elim
def BMv (ρ : Nat → Nat) (s t : Bx) (i : Nat) (ps : List Pd) : Prop :=
 ps = [] ∨ ∃ ps', look s (ρ i) = some ps' ∧ (i < 1000 ↔ ρ i < 1000) ∧ (grows i → grows (ρ i) ∧ ρ (i + 250) = ρ i + 250) ∧
  ((lk i = false ∧ lk (ρ i) = false ∧ PsLe ps' ps) ∨ (lk i = true ∧ lk (ρ i) = true ∧ PsMv ρ s t ps' ps) ∨ (lk i = true ∧ lk (ρ i) = false ∧ PsFl ps' ps))
def SMv (ρ : Nat → Nat) (t : Bx) : SD → SD → Prop
 | .one p, .one q => PLe p q
 | .ptr j o, .ptr i o' => ρ i = j ∧ o = o' ∧ look t i ≠ none
 | .own j o l c, .own i o' l' c' => ρ i = j ∧ o = o' ∧ l = l' ∧ c = c' ∧ look t i ≠ none
 | .app j k l, .app i k' l' => ρ i = j ∧ ρ (i + 250) = j + 250 ∧ k = k' ∧ l = l' ∧ look t i ≠ none ∧ look t (i + 250) ≠ none
 | .app j _ l, .own i o' l' c' => ρ i = j ∧ 0 < l ∧ o' = 0 ∧ l = l' ∧ l = c' ∧ look t i ≠ none
 | _, _ => False
theorem SMv.ok {ρ : Nat → Nat} {t : Bx} {s' s : SD} (hm : SMv ρ t s' s) {h : GH} {β : Nat → Nat} {v : Value} (ho : s'.ok h β v) : s.ok h (fun i => β (ρ i)) v ∧ s.live t := by
 cases s' <;> cases s <;> first | exact hm.elim | skip
 ·exact ⟨hm _ _ ho, trivial⟩
 ·obtain ⟨rfl, rfl, h3⟩ := hm; exact ⟨ho, h3⟩
 ·obtain ⟨rfl, rfl, rfl, rfl, h3⟩ := hm; exact ⟨ho, h3⟩
 ·obtain ⟨rfl, h0, rfl, rfl, rfl, h3⟩ := hm
  rcases ho with ⟨_, e⟩ | ⟨cap, h1, h2, h4, h5, _⟩
  ·omega
  ·exact ⟨⟨cap, h1, h4, h5⟩, h3⟩
 ·obtain ⟨rfl, h0, rfl, rfl, h3, h4⟩ := hm
  refine ⟨?_, h3, h4⟩
  rcases ho with ho | ⟨cap, h1, h2, h4, h5, h6⟩
  ·exact .inl ho
  ·exact .inr ⟨cap, h1, h2, h4, h5, by show _ = β (ρ (_ + 250)); rw [h0]; exact h6⟩
theorem Sub.move {σ τ : St} (ρ : Nat → Nat) (hpin : ∀ i, 1000 ≤ i → ρ i = i) (hinj : ∀ i j ps qs, look τ.bx i = some ps → ps ≠ [] → look τ.bx j = some qs → qs ≠ [] → ρ i = ρ j → i = j)
  (hs : ∀ t sd, look τ.sl t = some sd → ∃ sd', look σ.sl t = some sd' ∧ SMv ρ τ.bx sd' sd) (hb : ∀ i ps, look τ.bx i = some ps → BMv ρ σ.bx τ.bx i ps) : Sub σ τ := by
 rintro En n w0 h0 c a w ⟨h, β, hi, hsl⟩
 have src : ∀ i ps, look τ.bx i = some ps → ps ≠ [] → ∃ ps', look σ.bx (ρ i) = some ps' ∧ ps' ≠ [] ∧ (i < 1000 ↔ ρ i < 1000) ∧ (grows i → grows (ρ i) ∧ ρ (i + 250) = ρ i + 250) ∧ ((lk i = false ∧ lk (ρ i) = false ∧ PsLe ps' ps) ∨ (lk i = true ∧ lk (ρ i) = true ∧ PsMv ρ σ.bx τ.bx ps' ps) ∨ (lk i = true ∧ lk (ρ i) = false ∧ PsFl ps' ps)) := fun i ps hp hps => by
  rcases hb i ps hp with e | ⟨ps', h1, h2, h3, h4⟩
  ·exact absurd e hps
  ·refine ⟨ps', h1, ?_, h2, h3, h4⟩
   rintro rfl
   rcases h4 with ⟨_, _, h⟩ | ⟨_, _, h⟩ | ⟨_, _, h⟩
   ·exact hps h.nil
   ·cases ps with
    | nil => exact hps rfl
    | cons => exact h.elim
   ·cases ps with
    | nil => exact hps rfl
    | cons => exact h.elim
 refine ⟨h, fun i => β (ρ i), ⟨hi.env, hi.holds, hi.le0, hi.fresh, hi.below, hi.dis, fun i hge => ?_, fun i ps hp hps => ?_, fun i j ps qs hp hps hq hqs e => ?_⟩, hsl.defers, hsl.size, fun t sd ht => ?_⟩
 ·show β (ρ i) = _; rw [hpin i hge]; exact hi.pin i hge
 ·obtain ⟨ps', q1, q2, q3, q4, q5⟩ := src i ps hp hps
  obtain ⟨⟨r0, r0'⟩, r2, us, rs, T', r3, r4, r5, r6⟩ := hi.box _ ps' q1 q2
  refine ⟨⟨fun hh => r0 (q3.1 hh), fun hh => ?_⟩, r2, ?_⟩
  ·have := r0' (by rw [hpin i hh]; exact hh); rwa [hpin i hh] at this
  rcases q5 with ⟨l1, l2, hh⟩ | ⟨l1, l2, hh⟩ | ⟨l1, l2, hh⟩
  ·rw [bZ3 l2] at r3
   obtain ⟨v1, v2, e, hv⟩ := hh.all r4
   refine ⟨v1, v2 ++ rs, T', by rw [bZ3 l1, ← List.append_assoc, ← e]; exact r3, hv, fun hg => ?_, bZd l1 _ _ _⟩
   rw [← List.append_assoc, ← e, (q4 hg).2]; exact r5 (q4 hg).1
  ·obtain ⟨vs, k1, k2, k3⟩ := hh.all r4 (r6 l2)
   have e1 : tI (ρ i) β us = us.map (tr β) := by unfold tI; rw [l2]; rfl
   have e2 : tI i (fun i => β (ρ i)) vs = vs.map (tr fun i => β (ρ i)) := by unfold tI; rw [l1]; rfl
   have e3 := congrArg List.length k1
   simp only [List.length_map] at e3
   exact ⟨vs, rs, T', by rw [e2, ← k1, ← e1]; exact r3, k2, fun hg => by rw [(q4 hg).2, ← r5 (q4 hg).1]; simp [e3], fun _ => k3⟩
  ·rw [bZ3 l2] at r3
   obtain ⟨k1, k2, k3⟩ := hh.all (β := fun i => β (ρ i)) (t := τ.bx) r4
   have e2 : tI i (fun i => β (ρ i)) us = us.map (tr fun i => β (ρ i)) := by unfold tI; rw [l1]; rfl
   exact ⟨us, rs, T', by rw [e2, ← k1]; exact r3, k2, fun hg => by rw [(q4 hg).2]; exact r5 (q4 hg).1, fun _ => k3⟩
 ·obtain ⟨ps', q1, q2, _⟩ := src i ps hp hps
  obtain ⟨qs', k1, k2, _⟩ := src j qs hq hqs
  exact hinj i j ps qs hp hps hq hqs (hi.inj _ _ _ _ q1 q2 k1 k2 e)
 ·obtain ⟨sd', q1, q2⟩ := hs t sd ht
  obtain ⟨v, r1, r2, _⟩ := hsl.slot t sd' q1
  obtain ⟨g1, g2⟩ := q2.ok r2
  exact ⟨v, r1, g1, g2⟩
end Go.Proofs.YtfmjdlogjmofbaaGreatDoor

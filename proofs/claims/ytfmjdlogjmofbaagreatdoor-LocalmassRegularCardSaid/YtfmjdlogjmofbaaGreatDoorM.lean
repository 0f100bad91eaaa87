/- Slices in the abstract walk: constant ones, and a call's own. For any program. -/
import Derived.Test.YtfmjdlogjmofbaaGreatDoorA
import Derived.Test.YtfmjdlogjmofbaaGreatDoorL
import Derived.Laws.MakeOwn
import Derived.ArgAppend
import Derived.Laws.Cover3
import Derived.Test.YtfmjdlogjmofbaaGreatDoorW
set_option maxRecDepth 3000
namespace Go.Proofs.YtfmjdlogjmofbaaGreatDoor
section
open Go.RowKit Limb
class CElem (P : Program) (T : TypeId) (E : outParam TypeId) (k : outParam Nat) : Prop where
 ok : P.underlying T = some (.slice E) ∧ (P.info? E).map (·.size) = some k
def cpR (ps : List Pd) : Pd := ⟨fun h v => ∃ b o vs, v = .pointer (some ⟨b, o, none⟩) ∧ All2 h ps vs ∧ ∀ j u, vs[j]? = some u → h b (o + j) = some u,
 fun _ _ _ hl ⟨b, o, vs, h1, h2, h3⟩ => ⟨b, o, vs, h1, h2.mono hl, fun j u hu => hl _ _ _ (h3 j u hu)⟩⟩
def lb (x : Nat) : Pd := ex (.int .u32 (x : Int))
instance (x : Nat) : C1 (lb x) := ⟨fun _ _ h => by rw [h]; rfl⟩
def mag (l : List Nat) : Pd := ⟨fun h v => (∃ a cap, v = .slice a l.length cap ∧ l.length ≤ cap ∧ (cap ≤ maxLen ∧ (a = none → cap = 0)) ∧ (l ≠ [] → ∃ b off, a = some ⟨b, off, none⟩ ∧ ∀ j x, l[j]? = some x → h b (off + j) = some (.int .u32 (x : Nat)))) ∧ Lm l,
 fun _ _ _ hl ⟨⟨a, cap, h1, h2, h3, h4⟩, h5⟩ => ⟨⟨a, cap, h1, h2, h3, fun hn => let ⟨b, off, e, hc⟩ := h4 hn; ⟨b, off, e, fun j x hx => hl _ _ _ (hc j x hx)⟩⟩, h5⟩⟩
instance (l : List Nat) : C1 (mag l) := ⟨fun _ _ ⟨⟨_, _, h, _⟩, _⟩ => by rw [h]; rfl⟩
instance (l : List Nat) : CLen (mag l) l.length := ⟨fun _ _ ⟨⟨a, cap, h, _⟩, _⟩ => ⟨a, cap, h⟩⟩
theorem eZx : PLe (ex (.slice none 0 0)) (mag []) := fun _ _ h => ⟨⟨none, 0, h, Nat.le_refl _, ⟨by unfold maxLen; omega, fun _ => rfl⟩, fun h => absurd rfl h⟩, Lm.nil⟩
section
variable {P : Program} {En : Ev} {n : Nat} {sl : Sl} {bx : Bx} {dst : Option Tmp} {ty : TypeId} {pos : String} {after : Array Edge} {guard : Option (Nat × Bool)}
theorem dZh {T E : TypeId} {k : Nat} (hT : CElem P T E k) (b o len cap : Nat) (kk : IntKind) {i : Nat} (hi : i < len) (w : World) : (Instr.indexAt T (.slice (some ⟨b, o, none⟩) len cap) (.int kk (i : Int))).run P w = .ok (.pointer (some ⟨b, o + i * k, none⟩)) w := by
 obtain ⟨h1, h2⟩ := hT.ok
 obtain ⟨inf, h3, h4⟩ := Option.map_eq_some_iff.1 h2
 have h5 : (0 : Int) ≤ (i : Int) ∧ (i : Int) < (len : Int) := oM
 simp only [Instr.indexAt, asIntOf, Sem.run_bind, Sem.run_pure, Result.andThen_ok, run_underlying h1, if_pos h5, sizeOf, run_typeInfo _ h3, h4]
 rw [Addr.add_mid, Int.toNat_natCast]
theorem aZs {T E : TypeId} {x ix : Operand} {l : List Nat} {kk : IntKind} {i y : Nat} [hT : CElem P T E 1] (hx : osd sl x = some (.one (mag l))) (hi : osd sl ix = some (.one (ex (.int kk (i : Int))))) (hy : l[i]? = some y) :
  RT P En n ⟨dst, .indexAddr T x ix, ty, pos, after, guard⟩ sl bx ⟨.one (cpR [lb y]), [], []⟩ :=
 RT.pure fun ρ h β bx' H => by
  obtain ⟨⟨a, cap, h1, h2, h3, h4⟩, h5⟩ : (mag l).p h (ρ x) := (H x (by simp [Op.operands]) _ hx).1
  have h6 : ρ ix = .int kk (i : Int) := (H ix (by simp [Op.operands]) _ hi).1
  have hlt := (List.getElem?_eq_some_iff.1 hy).1
  obtain ⟨b, off, rfl, hc⟩ := h4 (by rintro rfl; simp at hlt)
  refine ⟨.pointer (some ⟨b, off + i * 1, none⟩), fun w _ => ?_, ⟨b, off + i * 1, [.int .u32 (y : Int)], rfl, ⟨rfl, rfl, trivial⟩, fun j u hu => ?_⟩, trivial⟩
  ·simp only [execOp, h1, h6, Sem.run_bind, dZh hT b off l.length cap kk hlt w, Result.andThen_ok, Sem.run_pure]
  ·cases j with
   | zero => simp at hu; rw [← hu, Nat.mul_one]; exact hc i y hy
   | succ j => simp at hu
theorem aZh {T : TypeId} {x : Operand} {ps : List Pd} {p : Pd} [ht : COne P T] (hx : osd sl x = some (.one (cpR ps))) (hp : ps[0]? = some p) : RT P En n ⟨dst, .load T x, ty, pos, after, guard⟩ sl bx ⟨.one p, [], []⟩ :=
 RT.pure fun ρ h β bx' H => by
  obtain ⟨b, o, vs, h1, h2, h3⟩ : (cpR ps).p h (ρ x) := (H x (by simp [Op.operands]) _ hx).1
  obtain ⟨v, hv, hpv, _⟩ := h2.get hp
  obtain ⟨d, hd1, hd2, _⟩ := ht.ok
  refine ⟨v, fun w hh => ?_, hpv, trivial⟩
  have hc : w.cell? ⟨b, o, none⟩ = some v := hh _ _ _ (by simpa using h3 0 v hv)
  simp only [execOp, h1, Instr.loadAt, Instr.sureAddr, loadVar, Sem.run_bind, Sem.run_pure, Result.andThen_ok, cZE hd1, hd2]
  simp [load, Sem.run, hc]
theorem aZq {T : TypeId} {x : Operand} {k : Nat} {ps : List Pd} [ht : CRow P T k] (hx : osd sl x = some (.one (cpR ps))) (hk : Nat.ble k ps.length = true) {qs : List Pd} (hq : ps.take k = qs) : RT P En n ⟨dst, .load T x, ty, pos, after, guard⟩ sl bx ⟨.one (aggP qs), [], []⟩ :=
 RT.pure fun ρ h β bx' H => by
  subst hq
  obtain ⟨b, o, vs, h1, h2, h3⟩ : (cpR ps).p h (ρ x) := (H x (by simp [Op.operands]) _ hx).1
  obtain ⟨d, hd1, hd2, hd3⟩ := ht.ok
  have hk := Nat.le_of_ble_eq_true hk
  have hl := h2.length
  have hlt : (vs.take k).length = k := by simp; omega
  refine ⟨.agg (vs.take k).toArray, fun w hh => ?_, ⟨_, rfl, h2.take k⟩, trivial⟩
  have hr : w.rangeAt b o (vs.take k) := fun j v hv => by
   rw [List.getElem?_take] at hv
   split at hv
   ·exact hh _ _ _ (h3 j v hv)
   ·cases hv
  simp only [execOp, h1, Sem.run_bind, run_loadAt_mid w b o T (vs.take k) d hr hd1 hd2 (by rw [hlt]; exact hd3), Result.andThen_ok, Sem.run_pure]
theorem eZC {S : TypeId} {x : Operand} {f off : Nat} {ps : List Pd} [hf : CField P S f off] (hx : osd sl x = some (.one (cpR ps))) {qs : List Pd} (hq : ps.drop off = qs) : RT P En n ⟨dst, .fieldAddr S x f, ty, pos, after, guard⟩ sl bx ⟨.one (cpR qs), [], []⟩ :=
 RT.pure fun ρ h β bx' H => by
  subst hq
  obtain ⟨b, o, vs, h1, h2, h3⟩ : (cpR ps).p h (ρ x) := (H x (by simp [Op.operands]) _ hx).1
  obtain ⟨fs, fd, e1, e2, e3, e45⟩ := hf.ok
  obtain ⟨i, e4, e5'⟩ := Option.map_eq_some_iff.1 e45
  have e5 : i.size ≠ 0 := by intro h0; rw [h0] at e5'; cases e5'
  refine ⟨.pointer (some ⟨b, o + off, none⟩), fun w _ => ?_, ⟨b, o + off, vs.drop off, rfl, h2.drop off, fun j u hu => ?_⟩, trivial⟩
  ·simp only [execOp, h1, Instr.fieldAt, Instr.sureAddr, Sem.run_bind, run_underlying e1, Result.andThen_ok, e2, Sem.run_pure, fieldPlace, sizeOf, run_typeInfo _ e4, if_neg e5]
   rw [Addr.add_mid, e3]
  ·rw [Nat.add_assoc]; exact h3 (off + j) u (by simpa using hu)
theorem jZs {T E : TypeId} {k : Nat} (hT : CElem P T E k) (a : Option Addr) (len cap : Nat) (lo hi : Option Value) (l h : Nat) (w : World) (hb : (Instr.sliceBounds true len cap lo hi none).run P w = .ok (l, h, cap) w) :
  (Instr.sliceAt T (.slice a len cap) lo hi none).run P w = .ok (.slice (if cap = l then a else a.map (·.add (l * k))) (h - l) (cap - l)) w := by
 obtain ⟨h1, h2⟩ := hT.ok
 obtain ⟨inf, h3, h4⟩ := Option.map_eq_some_iff.1 h2
 simp only [Instr.sliceAt, Instr.slice, Sem.run_bind, run_underlying h1, Result.andThen_ok, hb, sizeOf, run_typeInfo _ h3, Sem.run_pure, h4]
theorem lZH (len cap : Nat) (kk : IntKind) {j : Nat} (hj : j ≤ cap) (w : World) : (Instr.sliceBounds true len cap none (some (.int kk (j : Int))) none).run P w = .ok (0, j, cap) w := by
 simp [Instr.sliceBounds, Instr.sliceBound, asIntOf, hj]
theorem run_blh (len cap : Nat) (kk kk' : IntKind) {j i : Nat} (hi : i ≤ j) (hj : j ≤ cap) (w : World) : (Instr.sliceBounds true len cap (some (.int kk (i : Int))) (some (.int kk' (j : Int))) none).run P w = .ok (i, j, cap) w := by
 simp [Instr.sliceBounds, Instr.sliceBound, asIntOf, hj, hi]
theorem hZ2 {T E : TypeId} {x ix : Operand} {l : List Nat} {kk : IntKind} {j : Nat} [hT : CElem P T E 1] (hx : osd sl x = some (.one (mag l))) (hi : osd sl ix = some (.one (ex (.int kk (j : Int))))) (hj : j ≤ l.length) :
  RT P En n ⟨dst, .slice T x none (some ix) none, ty, pos, after, guard⟩ sl bx ⟨.one (mag (l.take j)), [], []⟩ :=
 RT.pure fun ρ h β bx' H => by
  obtain ⟨⟨a, cap, h1, h2, h3, h4⟩, h5⟩ : (mag l).p h (ρ x) := (H x (by simp [Op.operands]) _ hx).1
  have h6 : ρ ix = .int kk (j : Int) := (H ix (by simp [Op.operands]) _ hi).1
  have hlen : (l.take j).length = j := by simp; omega
  refine ⟨.slice a j cap, fun w _ => ?_, ⟨⟨a, cap, by rw [hlen], by rw [hlen]; omega, h3, fun hl => ?_⟩, h5.take j⟩, trivial⟩
  ·simp only [execOp, Option.map_none, Option.map_some, h1, h6, Sem.run_bind, jZs hT a l.length cap none (some (.int kk (j : Int))) 0 j w (lZH _ _ _ oM w), Result.andThen_ok, Sem.run_pure]
   have : (if cap = 0 then a else a.map (·.add (0 * 1))) = a := by
    split
    ·rfl
    ·cases a with
     | none => rfl
     | some ad => simp [Addr.add]
   rw [this]; rfl
  ·obtain ⟨b, off, e, hc⟩ := h4 (by rintro rfl; simp at hl)
   refine ⟨b, off, e, fun i x hx => hc i x ?_⟩
   rw [List.getElem?_take] at hx
   split at hx
   ·exact hx
   ·cases hx
theorem bZi {T E : TypeId} {x ix : Operand} {b o len cap : Nat} {kk : IntKind} {i : Nat} [hT : CElem P T E 1] (hx : osd sl x = some (.own b o len cap)) (hi : osd sl ix = some (.one (ex (.int kk (i : Int))))) (hy : i < len) :
  RT P En n ⟨dst, .indexAddr T x ix, ty, pos, after, guard⟩ sl bx ⟨.ptr b (o + i), [], []⟩ :=
 RT.pure fun ρ h β bx' H => by
  obtain ⟨h1, hl⟩ := H x (by simp [Op.operands]) _ hx
  obtain ⟨cap', h1, hcc, hcm⟩ : ∃ cap', ρ x = .slice (some ⟨β b, o, none⟩) len cap' ∧ cap ≤ cap' ∧ cap' ≤ maxLen := h1
  have h6 : ρ ix = .int kk (i : Int) := (H ix (by simp [Op.operands]) _ hi).1
  refine ⟨.pointer (some ⟨β b, o + i * 1, none⟩), fun w _ => ?_, by rw [Nat.mul_one]; rfl, hl⟩
  simp only [execOp, h1, h6, Sem.run_bind, dZh hT (β b) o len cap' kk hy w, Result.andThen_ok, Sem.run_pure]
theorem aZO {T E : TypeId} {x ix : Operand} {b len cap : Nat} {kk : IntKind} {i : Nat} [CElem P T E 1] (hx : osd sl x = some (.own b 0 len cap)) (hi : osd sl ix = some (.one (ex (.int kk (i : Int))))) (hy : i < len) :
  RT P En n ⟨dst, .indexAddr T x ix, ty, pos, after, guard⟩ sl bx ⟨.ptr b i, [], []⟩ := by
 have := bZi (T := T) (P := P) (En := En) (n := n) (sl := sl) (bx := bx) (dst := dst) (ty := ty) (pos := pos) (after := after) (guard := guard) hx hi hy
 rwa [Nat.zero_add] at this
theorem aZK {T : TypeId} {x y : Operand} {b o : Nat} {ps : List Pd} {q : Pd} [COne P T] [C1 q] (hx : osd sl x = some (.ptr b o)) (hy : osd sl y = some (.one q)) (hb : look bx b = some ps) (hk : o < ps.length) {rs : List Pd} (hr : ps.set o q = rs) (hl : lk b = false := by rfl) :
  RT P En n ⟨dst, .store T x y, ty, pos, after, guard⟩ sl bx ⟨.one (ex undef), [b], [(b, rs)]⟩ := by
 subst hr
 exact fZj o hx hy hb COne.ok (by rw [Nat.blt, Nat.ble_eq]; exact hk) hl
theorem aZE {x : Operand} {T E : TypeId} {b o len cap : Nat} (hx : osd sl x = some (.own b o len cap)) (ht : P.underlying T = some (.slice E)) : RT P En n ⟨dst, .call ⟨.builtin .len, #[x], #[T]⟩, ty, pos, after, guard⟩ sl bx ⟨.one (ex (.int .i64 (len : Nat))), [], []⟩ :=
 RT.pure fun ρ h β bx' H => by
  obtain ⟨cap', hv, _, _⟩ : ∃ cap', ρ x = .slice (some ⟨β b, o, none⟩) len cap' ∧ cap ≤ cap' ∧ cap' ≤ maxLen := (H x (by simp [Op.operands, Call.operands]) _ hx).1
  refine ⟨.int .i64 (len : Nat), fun w _ => ?_, rfl, trivial⟩
  simp [execOp, resolve, invoke, builtin, Builtin.len_, hv, run_underlying ht, goInt]
theorem fZU {T E : TypeId} {x lx hx : Operand} {b o len cap : Nat} {kk kk' : IntKind} {i j : Nat} [hT : CElem P T E 1] (h1 : osd sl x = some (.own b o len cap)) (h2 : osd sl lx = some (.one (ex (.int kk (i : Int))))) (h3 : osd sl hx = some (.one (ex (.int kk' (j : Int))))) (hij : i ≤ j) (hj : j ≤ cap) (hc : i < cap) :
  RT P En n ⟨dst, .slice T x (some lx) (some hx) none, ty, pos, after, guard⟩ sl bx ⟨.own b (o + i) (j - i) (cap - i), [], []⟩ :=
 RT.pure fun ρ h β bx' H => by
  obtain ⟨e1, hl⟩ := H x (by simp [Op.operands]) _ h1
  obtain ⟨cap', e1, hcc, hcm⟩ : ∃ cap', ρ x = .slice (some ⟨β b, o, none⟩) len cap' ∧ cap ≤ cap' ∧ cap' ≤ maxLen := e1
  have e2 : ρ lx = .int kk (i : Int) := (H lx (by simp [Op.operands]) _ h2).1
  have e3 : ρ hx = .int kk' (j : Int) := (H hx (by simp [Op.operands]) _ h3).1
  refine ⟨.slice (some ⟨β b, o + i, none⟩) (j - i) (cap' - i), fun w _ => ?_, ⟨cap' - i, rfl, oM, oM⟩, hl⟩
  simp only [execOp, Option.map_none, Option.map_some, e1, e2, e3, Sem.run_bind, jZs hT _ len cap' _ _ i j w (run_blh _ _ _ _ hij oM w), Result.andThen_ok, Sem.run_pure, if_neg (show ¬ cap' = i by omega)]
  rw [Addr.add_mid, Nat.mul_one]
end
end
section
open Go.RowKit Limb
class CZero1 (P : Program) (E : TypeId) (z : outParam Value) (bytes : outParam Nat) : Prop where
 ok : (P.info? E).map (fun i => (i.zero, i.size, i.bytes)) = some (some z, 1, bytes) ∧ z.oneCell' = true
section
variable {P : Program} {En : Ev} {n : Nat} {sl : Sl} {bx : Bx} {dst : Option Tmp} {ty : TypeId} {pos : String} {after : Array Edge} {guard : Option (Nat × Bool)}
theorem jZT (z : Value) (hz : z.oneCell' = true) (m : Nat) : madeCells z.cells m = (List.replicate m z).toArray := by
 rw [bZG hz]
 apply Array.ext
 ·simp [madeCells]
 ·intro i h1 h2
  simp [madeCells, Nat.mod_one]
theorem kZy {h : GH} {z : Value} (hz : z.oneCell' = true) : ∀ m, All2 h (List.replicate m (ex z)) (List.replicate m z)
 | 0 => trivial
 | m + 1 => ⟨rfl, hz, kZy hz m⟩
theorem dZC {T E : TypeId} {x y : Operand} {kl kc : IntKind} {d m bytes : Nat} {z : Value} [hT : CElem P T E 1] [hz : CZero1 P E z bytes] (hx : osd sl x = some (.one (ex (.int kl (m : Int))))) (hy : osd sl y = some (.one (ex (.int kc (m : Int))))) (hd : Nat.blt d 400 = true) (hn : look bx d = none) (hb : bytes * m ≤ 281474976710656) (hm : m ≤ 9223372036854775807) :
  RT P En n ⟨some d, .makeSlice T x y, ty, pos, after, guard⟩ sl bx ⟨.own d 0 m m, [], [(d, List.replicate m (ex z))]⟩ := by
 intro sl' bx' h1 _ h3 w0 h0 c h β a w Q hi hs
 have hd : d < 400 := Nat.le_of_ble_eq_true hd
 have hn' : look bx' d = none := by rw [h3 d (by simp)]; exact hn
 have e1 : a.eval x = .int kl (m : Int) := (aZI hs (x := x) (sd := .one (ex (.int kl (m : Int)))) (by rw [h1 x (by simp [Op.operands])]; exact hx)).1
 have e2 : a.eval y = .int kc (m : Int) := (aZI hs (x := y) (sd := .one (ex (.int kc (m : Int)))) (by rw [h1 y (by simp [Op.operands])]; exact hy)).1
 obtain ⟨hz1, hz2⟩ := hz.ok
 obtain ⟨inf, q1, q2⟩ := Option.map_eq_some_iff.1 hz1
 simp only [Prod.mk.injEq] at q2
 obtain ⟨q3, q4, q5⟩ := q2
 have h8 : ((bytes * m : Nat) : Int) ≤ 281474976710656 := oM
 rw [Int.natCast_mul] at h8
 have hr := run_make (P := P) w T E inf z hT.ok.1 q1 q3 kl kc m m oM (Int.le_refl _) (by rw [q5]; exact h8) oM
 rw [q4, Int.toNat_natCast, Nat.mul_one, jZT z hz2] at hr
 unfold Oper.wp
 have hrun : (execOp a.eval ⟨some d, .makeSlice T x y, ty, pos, after, guard⟩).run P w = .ok (.value (.slice (some ⟨w.heap.size, 0, none⟩) m m)) (w.alloc (.cells (List.replicate m z).toArray E)) := by
  simp only [execOp, e1, e2, Sem.run_bind, hr, Result.andThen_ok, Sem.run_pure]
 rw [hrun]
 refine ⟨_, h, upd β d w.heap.size, rfl, hi.alloc d hd hn' (kZy hz2 m) E, Le.refl _, fun j hj => ?_, ?_, ?_⟩
 ·exact aZ3 (by rintro rfl; exact hj hn')
 ·exact ⟨m, by rw [aZZ], Nat.le_refl _, by unfold maxLen; omega⟩
 ·show look ((d, _) :: bx') d ≠ none; rw [aZc, if_pos rfl]; simp
end
def addB (h : GH) (B : Nat) (vs : List Value) : GH := fun b o => if b = B then vs[o]? else h b o
theorem dZc {h : GH} {B o : Nat} {vs : List Value} : addB h B vs B o = vs[o]? := by unfold addB; rw [if_pos rfl]
theorem cZp {h : GH} {B b o : Nat} {vs : List Value} (hb : b ≠ B) : addB h B vs b o = h b o := by unfold addB; rw [if_neg hb]
theorem jZa {h : GH} {B : Nat} {vs : List Value} (hn : ∀ o, h B o = none) : Le h (addB h B vs) := fun b o v e => by
 have : b ≠ B := by rintro rfl; rw [hn o] at e; cases e
 rw [cZp this]; exact e
theorem Inv.allocC {En : Ev} {w0 : World} {h0 : GH} {c : Cx} {h : GH} {β : Nat → Nat} {bx : Bx} {w : World} (hi : Inv En w0 h0 c h β bx w) (vs : List Value) (T : TypeId) :
  Inv En w0 h0 c (addB h w.heap.size vs) β bx (w.alloc (.cells vs.toArray T)) ∧ Le h (addB h w.heap.size vs) := by
 have hn : ∀ o, h w.heap.size o = none := fun o => by
  cases hh : h w.heap.size o with
  | none => rfl
  | some v => exact absurd (hi.holds.lt hh) (Nat.lt_irrefl _)
 have hle := jZa (vs := vs) hn
 refine ⟨⟨hi.env, fun b o v e => ?_, hi.le0.trans hle, fun b o v e e0 => ?_, hi.below.below ((Below.refl _ _).alloc (Nat.le_refl _) _), hi.dis, hi.pin, fun i ps hp hps => ?_, hi.inj⟩, hle⟩
 ·by_cases hb : b = w.heap.size
  ·subst hb
   rw [dZc] at e
   rw [cell_of_row _ _ o _ T _ (heap_alloc_new w _)]
   simpa using e
  ·rw [cZp hb] at e
   rw [World.cell?_of_block (w := w) (a := ⟨b, o, none⟩) (Below.heap_alloc w _ b (hi.holds.lt e))]
   exact hi.holds b o v e
 ·by_cases hb : b = w.heap.size
  ·subst hb; exact hi.below.size
  ·rw [cZp hb] at e; exact hi.fresh b o v e e0
 ·obtain ⟨g1, g2, us, rs, T', g3, g4, g5, g6⟩ := hi.box i ps hp hps
  have hne : β i ≠ w.heap.size := by have := aZM g3; omega
  exact ⟨g1, fun o => by rw [cZp hne]; exact g2 o, us, rs, T', by rw [Below.heap_alloc w _ _ (aZM g3)]; exact g3, g4.mono hle, g5, g6⟩
section
variable {P : Program} {En : Ev} {n : Nat} {sl : Sl} {bx : Bx} {dst : Option Tmp} {ty : TypeId} {pos : String} {after : Array Edge} {guard : Option (Nat × Bool)}
def iZD (sl : Sl) : List (Nat × Operand) → Nat → List Nat → Prop
 | [], _, [] => True
 | x :: xs, k, y :: ys => x.1 = k ∧ osd sl x.2 = some (.one (lb y)) ∧ iZD sl xs (k + 1) ys
 | _, _, _ => False
theorem gZh {ρ : Operand → Value} {h : GH} {β : Nat → Nat} {bx' : Bx} : ∀ {xs : List (Nat × Operand)} {k : Nat} {ys : List Nat} {pre : List Value} {rest : List Value}, iZD sl xs k ys → (∀ x ∈ xs, ∀ s, osd sl x.2 = some s → s.ok h β (ρ x.2) ∧ s.live bx') → pre.length = k → rest.length = ys.length →
  Instr.fill (fun i => some (i * 1, 1)) (pre ++ rest).toArray (xs.map fun x => (x.1, ρ x.2)) = some (pre ++ ys.map fun (y : Nat) => Value.int .u32 (y : Int)).toArray
 | [], _, [], pre, rest, _, _, _, hl => by have : rest = [] := List.length_eq_zero_iff.1 hl; subst this; simp [Instr.fill]
 | x :: xs, k, y :: ys, pre, rest, ⟨e1, e2, e3⟩, H, hp, hl => by
  have hv : ρ x.2 = .int .u32 (y : Int) := (H x (by simp) _ e2).1
  cases rest with
  | nil => simp at hl
  | cons r rest =>
   have hcells : (ρ x.2).cells = #[Value.int .u32 (y : Int)] := by rw [hv]; rfl
   subst e1
   simp only [List.map_cons, Instr.fill, hcells]
   rw [if_neg (by simp; omega)]
   have hset : (#[Value.int .u32 (y : Int)].zipIdx.foldl (fun cs x_1 => cs.setIfInBounds (x.1 * 1 + x_1.2) x_1.1) (pre ++ r :: rest).toArray) = ((pre ++ [Value.int .u32 (y : Int)]) ++ rest).toArray := by
    simp [← hp]
   rw [hset, gZh e3 (fun z hz => H z (by simp [hz])) (by simp [hp]) (by simpa using hl)]
   simp
 | [], _, _ :: _, _, _, h, _, _, _ => h.elim
 | _ :: _, _, [], _, _, h, _, _, _ => h.elim
theorem hZ3 {T E : TypeId} {xs : List (Nat × Operand)} {len bytes : Nat} {l : List Nat} [hT : CElem P T E 1] [hz : CZero1 P E (.int .u32 0) bytes] (hp : iZD sl xs 0 l) (hl : Nat.beq l.length len = true) (hm : Nat.ble len 1000 = true) (hpos : Nat.blt 0 len = true) (hlm : Lm l) :
  RT P En n ⟨dst, .buildSlice T len xs.toArray, ty, pos, after, guard⟩ sl bx ⟨.one (mag l), [], []⟩ := by
 intro sl' bx' h1 _ _ w0 h0 c h β a w Q hi hs
 have hl := Nat.eq_of_beq_eq_true hl
 subst hl
 have hm := Nat.le_of_ble_eq_true hm
 have hpos : 0 < l.length := Nat.le_of_ble_eq_true hpos
 obtain ⟨hz1, hz2⟩ := hz.ok
 obtain ⟨inf, q1, q2⟩ := Option.map_eq_some_iff.1 hz1
 simp only [Prod.mk.injEq] at q2
 obtain ⟨q3, q4, q5⟩ := q2
 have hfill := gZh (ρ := a.eval) (h := h) (β := β) (bx' := bx') (pre := []) (rest := List.replicate l.length (.int .u32 0)) hp (fun x hx s hxs => aZI hs (by rw [h1 x.2 (by simp [Op.operands]; exact ⟨x.1, hx⟩)]; exact hxs)) rfl (by simp)
 simp only [List.nil_append] at hfill
 obtain ⟨hinv, hle⟩ := hi.allocC (l.map fun (y : Nat) => Value.int .u32 (y : Int)) E
 have hrun : (execOp a.eval ⟨dst, .buildSlice T l.length xs.toArray, ty, pos, after, guard⟩).run P w = .ok (.value (.slice (some ⟨w.heap.size, 0, none⟩) l.length l.length)) (w.alloc (.cells (l.map fun (y : Nat) => Value.int .u32 (y : Int)).toArray E)) := by
  have hmap : (xs.toArray.map fun x => (x.1, a.eval x.2)).toList = xs.map fun x => (x.1, a.eval x.2) := by simp
  have hmade : ∀ k, (Array.range k).map ((#[Value.int .u32 0] : Array Value)[· % (#[Value.int .u32 0] : Array Value).size]!) = (List.replicate k (.int .u32 0)).toArray := fun k => by
   have := jZT (.int .u32 0) rfl k
   exact this
  have hlim : ¬ (l.length * 1 > 2 ^ 24) := oM
  have h0 : ¬ l.length * 1 = 0 := oM
  simp only [execOp, Instr.buildSlice, Sem.run_bind, run_underlying hT.ok.1, Result.andThen_ok, sizeOf, run_typeInfo _ q1, q4, if_neg hlim, if_neg h0, Sem.run_pure, zeroValue, q3, Value.cells]
  rw [hmap, Nat.mul_one, hmade, hfill]
  rfl
 unfold Oper.wp
 rw [hrun]
 refine ⟨_, _, β, rfl, hinv, hle, fun _ _ => rfl, ⟨⟨some ⟨w.heap.size, 0, none⟩, l.length, rfl, Nat.le_refl _, ⟨by unfold maxLen; omega, fun h => by cases h⟩, fun _ => ⟨w.heap.size, 0, rfl, fun j x hx => ?_⟩⟩, hlm⟩, trivial⟩
 rw [Nat.zero_add, dZc]
 simp [hx]
end
end
section
open Go.RowKit Limb
def arrP (ps : List Pd) (o len cap : Nat) : Pd := ⟨fun h v => ∃ B vs cap', v = .slice (some ⟨B, o, none⟩) len cap' ∧ (cap ≤ cap' ∧ cap' ≤ maxLen) ∧ All2 h ps vs ∧ ∀ j u, vs[j]? = some u → h B j = some u,
 fun _ _ _ hl ⟨B, vs, cap', h1, h0, h2, h3⟩ => ⟨B, vs, cap', h1, h0, h2.mono hl, fun j u hu => hl _ _ _ (h3 j u hu)⟩⟩
def slc (k : Nat) (ps : List Pd) (n : Nat) : Pd := ⟨fun h v => ∃ a cap, v = .slice a n cap ∧ n ≤ cap ∧ cap ≤ maxLen ∧ (a = none → cap = 0) ∧ ps.length = n * k ∧ (ps ≠ [] → ∃ b off vs, a = some ⟨b, off, none⟩ ∧ All2 h ps vs ∧ ∀ j u, vs[j]? = some u → h b (off + j) = some u),
 fun _ _ _ hl ⟨a, cap, h1, h2, h3, h4, h5, h6⟩ => ⟨a, cap, h1, h2, h3, h4, h5, fun hn => let ⟨b, off, vs, e, ha, hc⟩ := h6 hn; ⟨b, off, vs, e, ha.mono hl, fun j u hu => hl _ _ _ (hc j u hu)⟩⟩⟩
instance (k : Nat) (ps : List Pd) (n : Nat) : C1 (slc k ps n) := ⟨fun _ _ ⟨_, _, h, _⟩ => by rw [h]; rfl⟩
instance (k : Nat) (ps : List Pd) (n : Nat) : CLen (slc k ps n) n := ⟨fun _ _ ⟨a, cap, h, _⟩ => ⟨a, cap, h⟩⟩
def pubS (s : Sl) (bx : Bx) (b : Nat) (ps : List Pd) : Sl → Prop
 | [] => True
 | (t, sd) :: l => (((∃ sd', look s t = some sd' ∧ SLe sd' sd) ∧ sd.live bx) ∨ (∃ o len cap p, look s t = some (.own b o len cap) ∧ sd = .one p ∧ PLe (arrP ps o len cap) p) ∨ (∃ k len p, look s t = some (.app b k len) ∧ sd = .one p ∧ ps.length = len * k ∧ PLe (slc k ps len) p) ∨ (∃ o p, look s t = some (.ptr b o) ∧ sd = .one p ∧ PLe (cpR (ps.drop o)) p)) ∧ pubS s bx b ps l
theorem jZ8 {s : Sl} {bx : Bx} {b : Nat} {ps : List Pd} : ∀ {l : Sl}, pubS s bx b ps l → ∀ {t : Nat} {sd : SD}, look l t = some sd →
  (((∃ sd', look s t = some sd' ∧ SLe sd' sd) ∧ sd.live bx) ∨ (∃ o len cap p, look s t = some (.own b o len cap) ∧ sd = .one p ∧ PLe (arrP ps o len cap) p) ∨ (∃ k len p, look s t = some (.app b k len) ∧ sd = .one p ∧ ps.length = len * k ∧ PLe (slc k ps len) p) ∨ (∃ o p, look s t = some (.ptr b o) ∧ sd = .one p ∧ PLe (cpR (ps.drop o)) p))
 | [], _, _, _, h => by cases h
 | (k, x) :: l, ⟨h1, h3⟩, t, sd, h => by
  rw [aZc] at h
  split at h
  ·rename_i e; subst e; cases h; exact h1
  ·exact jZ8 h3 h
theorem Inv.pubG {En : Ev} {w0 : World} {h0 : GH} {c : Cx} {h : GH} {β : Nat → Nat} {bx bx' : Bx} {w : World} (hi : Inv En w0 h0 c h β bx w) (b : Nat) {ps : List Pd} (hb0 : b < 1000) (hb : look bx b = some ps) (h2 : ∀ i qs, look bx' i = some qs → (∃ ps', look bx i = some ps' ∧ PsLe ps' qs) ∨ qs = []) (h3 : ∀ qs, look bx' b = some qs → qs = []) (hk : LKeep bx bx') :
  ∃ h' vs, Inv En w0 h0 c h' β bx' w ∧ Le h h' ∧ All2 h' ps vs ∧ fZu b β bx vs ∧ ∀ j u, (tI b β vs)[j]? = some u → h' (β b) j = some u := by
 have hne : ∀ i qs, look bx' i = some qs → qs ≠ [] → ∃ ps', look bx i = some ps' ∧ ps' ≠ [] ∧ PsLe ps' qs := fun i qs hp hps => by
  rcases h2 i qs hp with ⟨ps', g1, g2⟩ | rfl
  ·exact ⟨ps', g1, by rintro rfl; exact hps g2.nil, g2⟩
  ·exact absurd rfl hps
 have hinj : ∀ i j qs rs, look bx' i = some qs → qs ≠ [] → look bx' j = some rs → rs ≠ [] → β i = β j → i = j := fun i j qs rs a1 a2 b1 b2 => by
  obtain ⟨ps', g1, g3, _⟩ := hne i qs a1 a2
  obtain ⟨qs', k1, k3, _⟩ := hne j rs b1 b2
  exact hi.inj i j _ _ g1 g3 k1 k3
 by_cases hps : ps = []
 ·subst hps
  refine ⟨h, [], ⟨hi.env, hi.holds, hi.le0, hi.fresh, hi.below, hi.dis, hi.pin, fun i qs hq hqs => ?_, hinj⟩, Le.refl _, trivial, fun _ v hv => (by cases hv), fun j u hu => by unfold tI at hu; cases hl : lk b <;> simp [hl] at hu⟩
  obtain ⟨ps', g1, g3, g2⟩ := hne i qs hq hqs
  obtain ⟨q1, q2, vs, rs, T, q3, q4, q5, q6⟩ := hi.box i ps' g1 g3
  obtain ⟨v1, v2, e, hv⟩ := g2.all q4
  have e2 : tI i β vs = tI i β v1 ++ tI i β v2 := by rw [e]; unfold tI; cases lk i <;> simp
  exact ⟨q1, q2, v1, tI i β v2 ++ rs, T, by rw [← List.append_assoc, ← e2]; exact q3, hv, fun hg => by rw [← q5 hg, e]; simp [lZv], hk.refs hq hv (fun v hv => by rw [e]; exact List.mem_append_left _ hv) q6⟩
 obtain ⟨q1, q2, vs, rest, T, q3, q4, q5, q6⟩ := hi.box b ps hb hps
 have hle := jZa (vs := tI b β vs) q2
 refine ⟨addB h (β b) (tI b β vs), vs, ⟨hi.env, fun b' o v e => ?_, hi.le0.trans hle, fun b' o v e e0 => ?_, hi.below, hi.dis, hi.pin, fun i qs hq hqs => ?_, hinj⟩, hle, q4.mono hle, q6, fun j u hu => by rw [dZc]; exact hu⟩
 ·by_cases hq : b' = β b
  ·subst hq
   rw [dZc] at e
   rw [cell_of_row _ _ o _ T _ q3]
   have hlt := (List.getElem?_eq_some_iff.1 e).1
   simpa [List.getElem?_append_left hlt] using e
  ·rw [cZp hq] at e
   exact hi.holds b' o v e
 ·by_cases hq : b' = β b
  ·subst hq; exact q1.1 hb0
  ·rw [cZp hq] at e; exact hi.fresh b' o v e e0
 ·obtain ⟨ps', g1, g3, g2⟩ := hne i qs hq hqs
  obtain ⟨r1, r2, us, rs, T', r3, r4, r5, r6⟩ := hi.box i ps' g1 g3
  have hn : β i ≠ β b := fun e => by
   have := hi.inj i b _ _ g1 g3 hb hps e
   subst this
   exact hqs (h3 _ hq)
  obtain ⟨v1, v2, e, hv⟩ := g2.all r4
  have e2 : tI i β us = tI i β v1 ++ tI i β v2 := by rw [e]; unfold tI; cases lk i <;> simp
  exact ⟨r1, fun o => by rw [cZp hn]; exact r2 o, v1, tI i β v2 ++ rs, T', by rw [← List.append_assoc, ← e2]; exact r3, hv.mono hle, fun hg => by rw [← r5 hg, e]; simp [lZv], hk.refs hq hv (fun v hv => by rw [e]; exact List.mem_append_left _ hv) r6⟩
theorem Inv.pub {En : Ev} {w0 : World} {h0 : GH} {c : Cx} {h : GH} {β : Nat → Nat} {bx bx' : Bx} {w : World} (hi : Inv En w0 h0 c h β bx w) (b : Nat) {ps : List Pd} (hb0 : b < 1000) (hb : look bx b = some ps) (h2 : subBx bx bx') (h3 : look bx' b = none) (hk : LKeep bx bx') (hlb : lk b = false) :
  ∃ h' vs, Inv En w0 h0 c h' β bx' w ∧ Le h h' ∧ All2 h' ps vs ∧ ∀ j u, vs[j]? = some u → h' (β b) j = some u := by
 obtain ⟨h', vs, g1, g2, g3, _, g5⟩ := hi.pubG b hb0 hb (fun i qs hq => cZD h2 hq) (fun qs hq => by rw [h3] at hq; cases hq) hk
 rw [bZ3 hlb] at g5
 exact ⟨h', vs, g1, g2, g3, g5⟩
theorem Sub.pub {σ τ : St} (b : Nat) {ps : List Pd} (hb0 : Nat.blt b 1000 = true) (hb : look σ.bx b = some ps) (h1 : pubS σ.sl τ.bx b ps τ.sl) (h2 : subBx σ.bx τ.bx) (h3 : look τ.bx b = none) (h4 : LKeep σ.bx τ.bx := by exact eZg rfl) (h5 : lk b = false := by rfl) : Sub σ τ := by
 rintro En n w0 h0 c a w ⟨h, β, hi, hs⟩
 have hb0 : b < 1000 := Nat.le_of_ble_eq_true hb0
 obtain ⟨h', vs, hi', hle, hall, hcell⟩ := hi.pub b hb0 hb h2 h3 h4 h5
 refine ⟨h', β, hi', hs.defers, hs.size, fun t sd ht => ?_⟩
 rcases jZ8 h1 ht with ⟨⟨sd', g1, g2⟩, g3⟩ | ⟨o, len, cap, p, g1, rfl, g2⟩ | ⟨k, len, p, g1, rfl, gl, g2⟩ | ⟨o, p, g1, rfl, g2⟩
 ·obtain ⟨v, r1, r2, _⟩ := hs.slot t sd' g1
  exact ⟨v, r1, SD.ok_mono (g2.ok r2) g3 hle (fun _ _ => rfl), g3⟩
 ·obtain ⟨v, r1, r2, _⟩ := hs.slot t _ g1
  obtain ⟨cap', r2, hc⟩ : ∃ cap', v = .slice (some ⟨β b, o, none⟩) len cap' ∧ cap ≤ cap' ∧ cap' ≤ maxLen := r2
  exact ⟨v, r1, g2 _ _ ⟨β b, vs, cap', r2, hc, hall, hcell⟩, trivial⟩
 ·obtain ⟨v, r1, r2, _⟩ := hs.slot t _ g1
  refine ⟨v, r1, g2 _ _ ?_, trivial⟩
  rcases r2 with ⟨rfl, rfl⟩ | ⟨cap, rfl, c1, c2, c3, c4⟩
  ·exact ⟨none, 0, rfl, Nat.le_refl _, Nat.zero_le _, fun _ => rfl, gl, fun hn => absurd (List.length_eq_zero_iff.1 (by rw [gl]; simp)) hn⟩
  ·exact ⟨_, cap, rfl, c2, c3, (fun h => by cases h), gl, fun _ => ⟨β b, 0, vs, rfl, hall, fun j u hu => by rw [Nat.zero_add]; exact hcell j u hu⟩⟩
 ·obtain ⟨v, r1, r2, _⟩ := hs.slot t _ g1
  refine ⟨v, r1, g2 _ _ ⟨β b, o, vs.drop o, r2, hall.drop o, fun j u hu => hcell _ _ (by simpa using hu)⟩, trivial⟩
def SD.avoid (b : Nat) : SD → Prop
 | .one _ => True
 | .ptr i _ => i ≠ b ∧ i ≠ b + 250
 | .own i _ _ _ => i ≠ b ∧ i ≠ b + 250
 | .app i _ _ => i ≠ b ∧ i ≠ b + 250 ∧ i + 250 ≠ b ∧ i + 250 ≠ b + 250
 | .clo _ bs => ∀ x ∈ bs, x.1 ≠ b ∧ x.1 ≠ b + 250
 | .pin i _ => i ≠ b ∧ i ≠ b + 250
 | .gen g => ∀ i ∈ g.bs, i ≠ b ∧ i ≠ b + 250
def renS (s : Sl) (bx : Bx) (b d : Nat) : Sl → Prop
 | [] => True
 | (t, sd) :: l => (((∃ sd', look s t = some sd' ∧ SLe sd' sd) ∧ sd.live bx ∧ sd.avoid b) ∨ (∃ k len, look s t = some (.app d k len) ∧ (sd = .app b k len ∨ (0 < len ∧ sd = .own b 0 len len)) ∧ sd.live bx)) ∧ renS s bx b d l
def renB (s : Bx) (b d : Nat) : Bx → Prop
 | [] => True
 | (i, ps) :: l => ((i = b ∧ ∃ ps', look s d = some ps' ∧ PsLe ps' ps) ∨ (i ≠ b ∧ ((i ≠ b + 250 ∧ ∃ ps', look s i = some ps' ∧ PsLe ps' ps) ∨ ps = []))) ∧ renB s b d l
theorem jZ2 {s : Sl} {bx : Bx} {b d : Nat} : ∀ {l : Sl}, renS s bx b d l → ∀ {t : Nat} {sd : SD}, look l t = some sd →
  (((∃ sd', look s t = some sd' ∧ SLe sd' sd) ∧ sd.live bx ∧ sd.avoid b) ∨ (∃ k len, look s t = some (.app d k len) ∧ (sd = .app b k len ∨ (0 < len ∧ sd = .own b 0 len len)) ∧ sd.live bx))
 | [], _, _, _, h => by cases h
 | (k, x) :: l, ⟨h1, h3⟩, t, sd, h => by
  rw [aZc] at h
  split at h
  ·rename_i e; subst e; cases h; exact h1
  ·exact jZ2 h3 h
theorem jZ3 {s : Bx} {b d : Nat} : ∀ {l : Bx}, renB s b d l → ∀ {t : Nat} {ps : List Pd}, look l t = some ps →
  ((t = b ∧ ∃ ps', look s d = some ps' ∧ PsLe ps' ps) ∨ (t ≠ b ∧ ((t ≠ b + 250 ∧ ∃ ps', look s t = some ps' ∧ PsLe ps' ps) ∨ ps = [])))
 | [], _, _, _, h => by cases h
 | (k, x) :: l, ⟨h1, h3⟩, t, sd, h => by
  rw [aZc] at h
  split at h
  ·rename_i e; subst e; cases h; exact h1
  ·exact jZ3 h3 h
theorem Sub.ren {σ τ : St} (b d : Nat) (hd : (Nat.ble 500 d && Nat.blt d 700 && Nat.blt b 700 && !lk b) = true) (h1 : renS σ.sl τ.bx b d τ.sl) (h2 : renB σ.bx b d τ.bx) (h3 : look τ.bx d = none) (h4 : τ.bx.all (fun x => !lk x.1) = true := by rfl) : Sub σ τ := by
 rintro En n w0 h0 c a w ⟨h, β, hi, hs⟩
 rw [Bool.and_eq_true, Bool.and_eq_true, Bool.and_eq_true] at hd
 obtain ⟨⟨⟨hd1, hd2⟩, hb2⟩, hlb⟩ := hd
 have hlb : lk b = false := by simpa using hlb
 have hd1 := Nat.le_of_ble_eq_true hd1
 have hd2' : d < 700 := Nat.le_of_ble_eq_true hd2
 have hb2' : b < 700 := Nat.le_of_ble_eq_true hb2
 have hd2 : d < 750 := oM
 have hb2 : b < 750 := oM
 have hld : lk d = false := by
  unfold lk
  rw [show Nat.blt d 500 = false by cases e : Nat.blt d 500; rfl; exact absurd (Nat.le_of_ble_eq_true e) oM, show Nat.ble 700 d = false by cases e : Nat.ble 700 d; rfl; exact absurd (Nat.le_of_ble_eq_true e) oM, show Nat.ble 1750 d = false by cases e : Nat.ble 1750 d; rfl; exact absurd (Nat.le_of_ble_eq_true e) oM]
  simp
 have nl : ∀ i ps, look τ.bx i = some ps → lk i = false := fun i ps hp => by
  have := List.all_eq_true.1 h4 _ (cZk hp)
  simpa using this
 let γ : Nat → Nat := fun i => if i = b then β d else if i = b + 250 then β (d + 250) else β i
 have g0 : γ b = β d := if_pos rfl
 have g1 : γ (b + 250) = β (d + 250) := by show (if _ then _ else _) = _; rw [if_neg oM, if_pos rfl]
 have g2 : ∀ i, i ≠ b → i ≠ b + 250 → γ i = β i := fun i h1 h2 => by show (if _ then _ else _) = _; rw [if_neg h1, if_neg h2]
 have src : ∀ i ps, look τ.bx i = some ps → ps ≠ [] → ∃ j ps', look σ.bx j = some ps' ∧ ps' ≠ [] ∧ PsLe ps' ps ∧ ((i = b ∧ j = d) ∨ (i ≠ b ∧ i ≠ b + 250 ∧ j = i ∧ i ≠ d)) := fun i ps hp hps => by
  rcases jZ3 h2 hp with ⟨rfl, ps', q1, q2⟩ | ⟨hne, ⟨hne', ps', q1, q2⟩ | rfl⟩
  ·exact ⟨d, ps', q1, by rintro rfl; exact hps q2.nil, q2, .inl ⟨rfl, rfl⟩⟩
  ·exact ⟨i, ps', q1, by rintro rfl; exact hps q2.nil, q2, .inr ⟨hne, hne', rfl, by rintro rfl; rw [h3] at hp; cases hp⟩⟩
  ·exact absurd rfl hps
 refine ⟨h, γ, ⟨hi.env, hi.holds, hi.le0, hi.fresh, hi.below, hi.dis, fun i hge => ?_, fun i ps hp hps => ?_, fun i j ps qs hp hps hq hqs e => ?_⟩, hs.defers, hs.size, fun t sd ht => ?_⟩
 ·rw [g2 i oM oM]; exact hi.pin i hge
 ·obtain ⟨j, ps', q1, q2, q3, q4⟩ := src i ps hp hps
  have hlj : lk j = false := by
   rcases q4 with ⟨_, rfl⟩ | ⟨_, _, rfl, _⟩
   ·exact hld
   ·exact nl _ _ hp
  obtain ⟨r1, r2, us, rs, T', r3, r4, r5⟩ := hi.box0 j ps' q1 q2 hlj
  have hli := nl i ps hp
  obtain ⟨v1, v2, e, hv⟩ := q3.all r4
  rcases q4 with ⟨rfl, rfl⟩ | ⟨n1, n2, rfl, n3⟩
  ·rw [g0]
   exact ⟨⟨fun _ => r1.1 oM, fun h => absurd h oM⟩, r2, v1, v2 ++ rs, T', by rw [bZ3 hli, ← List.append_assoc, ← e]; exact r3, hv, fun _ => by rw [← List.append_assoc, ← e, g1]; exact r5 ⟨hd1, hd2⟩, bZd hli _ _ _⟩
  ·rw [g2 _ n1 n2]
   exact ⟨r1, r2, v1, v2 ++ rs, T', by rw [bZ3 hli, ← List.append_assoc, ← e]; exact r3, hv, fun hg => by rw [← List.append_assoc, ← e, g2 _ (by have := hg.1; omega) oM]; exact r5 hg, bZd hli _ _ _⟩
 ·obtain ⟨i', ps', q1, q2, _, q4⟩ := src i ps hp hps
  obtain ⟨j', qs', k1, k2, _, k4⟩ := src j qs hq hqs
  rcases q4 with ⟨rfl, rfl⟩ | ⟨n1, n2, rfl, n3⟩ <;> rcases k4 with ⟨rfl, rfl⟩ | ⟨m1, m2, rfl, m3⟩
  ·rfl
  ·rw [g0, g2 _ m1 m2] at e
   exact absurd (hi.inj _ _ _ _ q1 q2 k1 k2 e) (fun h => m3 h.symm)
  ·rw [g0, g2 _ n1 n2] at e
   exact absurd (hi.inj _ _ _ _ q1 q2 k1 k2 e) n3
  ·rw [g2 _ n1 n2, g2 _ m1 m2] at e
   exact hi.inj _ _ _ _ q1 q2 k1 k2 e
 ·rcases jZ2 h1 ht with ⟨⟨sd', q1, q2⟩, q3, q4⟩ | ⟨k, len, q1, q2, q3⟩
  ·obtain ⟨v, r1, r2, _⟩ := hs.slot t sd' q1
   refine ⟨v, r1, ?_, q3⟩
   have r2 := q2.ok r2
   cases sd with
   | one p => exact r2
   | ptr i o => show _ = _; rw [g2 i q4.1 q4.2]; exact r2
   | own i o l k => show ∃ cap', _ ∧ _; rw [g2 i q4.1 q4.2]; exact r2
   | app i k l => show (_ ∧ _) ∨ _; rw [g2 i q4.1 q4.2.1, g2 (i + 250) q4.2.2.1 q4.2.2.2]; exact r2
   | clo f bs =>
    have : bs.map (ptrV γ) = bs.map (ptrV β) := List.map_congr_left fun x hx => by unfold ptrV; rw [g2 x.1 (q4 x hx).1 (q4 x hx).2]
    show v = _; rw [this]; exact r2
   | pin i x => show γ i = x; rw [g2 i q4.1 q4.2]; exact r2
   | gen g => exact g.mono _ _ _ _ _ (Le.refl _) (fun i hi => g2 i (q4 i hi).1 (q4 i hi).2) r2
  ·obtain ⟨v, r1, r2, _⟩ := hs.slot t _ q1
   rcases q2 with rfl | ⟨hpos, rfl⟩
   ·refine ⟨v, r1, ?_, q3⟩
    show (_ ∧ _) ∨ _
    rw [g0, g1]; exact r2
   ·refine ⟨v, r1, ?_, q3⟩
    rcases r2 with ⟨_, r2⟩ | ⟨cap, r2, _, r3, r4, _⟩
    ·omega
    ·exact ⟨cap, by rw [g0]; exact r2, r3, r4⟩
theorem Sub.trans {σ τ υ : St} (h : Sub σ τ) (k : Sub τ υ) : Sub σ υ := fun En n w0 h0 c a w hg => k En n w0 h0 c a w (h En n w0 h0 c a w hg)
theorem nZz {h : GH} : ∀ {l : List Nat} {vs : List Value}, All2 h (l.map lb) vs → vs = l.map fun (y : Nat) => Value.int .u32 (y : Int)
 | [], [], _ => rfl
 | x :: l, v :: vs, ⟨a, _, c⟩ => by have : v = .int .u32 (x : Int) := a; rw [this, nZz c]; rfl
 | [], _ :: _, h => h.elim
 | _ :: _, [], h => h.elim
theorem arr_mag {l : List Nat} {o len cap : Nat} (hl : o + len ≤ l.length) (hc : len ≤ cap) (hlm : Lm l) {m : List Nat} (he : (l.drop o).take len = m) : PLe (arrP (l.map lb) o len cap) (mag m) := by
 subst he
 rintro h v ⟨B, vs, cap', h1, ⟨hcc, hm⟩, h2, h3⟩
 have hlen : ((l.drop o).take len).length = len := by simp; omega
 rw [nZz h2] at h3
 refine ⟨⟨some ⟨B, o, none⟩, cap', by rw [hlen]; exact h1, oM, ⟨hm, fun h => by cases h⟩, fun _ => ⟨B, o, rfl, fun j x hx => ?_⟩⟩, (hlm.drop o).take len⟩
 refine h3 (o + j) _ ?_
 rw [List.getElem?_take] at hx
 split at hx
 ·rw [List.getElem?_drop] at hx; rw [List.getElem?_map, hx]; rfl
 ·cases hx
theorem bZv {l : List Nat} {cap : Nat} (hc : l.length ≤ cap) (hlm : Lm l) : PLe (arrP (l.map lb) 0 l.length cap) (mag l) := arr_mag oM hc hlm (by simp)
structure BoxesOK (h : GH) (β : Nat → Nat) (bx : Bx) (w : World) : Prop where
 box : ∀ i ps, look bx i = some ps → ps ≠ [] → (∀ o, h (β i) o = none) ∧ ∃ (vs rest : List Value) (T : TypeId), w.heap[β i]? = some (.cells (tI i β vs ++ rest).toArray T (0, 0)) ∧ All2 h ps vs ∧ fZu i β bx vs
 inj : ∀ i j ps qs, look bx i = some ps → ps ≠ [] → look bx j = some qs → qs ≠ [] → β i = β j → i = j
def AllS (h : GH) (β : Nat → Nat) (bx : Bx) : List SD → List Value → Prop
 | [], [] => True
 | s :: ss, v :: vs => s.ok h β v ∧ s.live bx ∧ AllS h β bx ss vs
 | _, _ => False
theorem AllS.length {h : GH} {β : Nat → Nat} {bx : Bx} : ∀ {ss : List SD} {vs : List Value}, AllS h β bx ss vs → ss.length = vs.length
 | [], [], _ => rfl
 | _ :: _, _ :: _, ⟨_, _, c⟩ => by simp [AllS.length c]
 | [], _ :: _, h => h.elim
 | _ :: _, [], h => h.elim
theorem AllS.append {h : GH} {β : Nat → Nat} {bx : Bx} : ∀ {ss tt : List SD} {vs us : List Value}, AllS h β bx ss vs → AllS h β bx tt us → AllS h β bx (ss ++ tt) (vs ++ us)
 | [], _, [], _, _, k => k
 | _ :: _, _, _ :: _, _, ⟨a, b, c⟩, k => ⟨a, b, AllS.append c k⟩
 | [], _, _ :: _, _, h, _ => h.elim
 | _ :: _, _, [], _, h, _ => h.elim
def boxM (β : Nat → Nat) (bx : Bx) : Nat → Prop := fun k => ∃ i, (∃ ps, look bx i = some ps ∧ ps ≠ []) ∧ k = β i
def GPost (h : GH) (β : Nat → Nat) (bx : Bx) (w : World) (r : SD) (bx' : Bx) (e : Ending) (w' : World) : Prop :=
 ∃ v h' β', e = .returned v ∧ Le h h' ∧ Holds h' w' ∧ (∀ b o u, h' b o = some u → h b o = none → w.heap.size ≤ b) ∧ BelowM (boxM β bx) w w' ∧ BoxesOK h' β' bx' w' ∧
  (∀ i, 1000 ≤ i → β' i = β i) ∧ (∀ i ps, look bx' i = some ps → ps ≠ [] → (i < 1000 → w.heap.size ≤ β' i) ∧ (1000 ≤ i → ∃ qs, look bx i = some qs ∧ qs ≠ [])) ∧ r.ok h' β' v ∧ r.live bx'
def FnG (P : Program) (En : Ev) (f : FuncId) (az : List SD) (bx : Bx) (r : SD) (bx' : Bx) : Prop :=
 ∀ (h : GH) (β : Nat → Nat) (w : World) (vs : List Value), En.e w → Holds h w → BoxesOK h β bx w → (∀ i ps, look bx i = some ps → ps ≠ [] → 1000 ≤ i ∧ ¬ En.S (β i)) → AllS h β bx az vs → Calls P f vs.toArray w (GPost h β bx w r bx')
def argS : List SD → Nat → Sl
 | [], _ => []
 | p :: ps, k => (k, p) :: argS ps (k + 1)
theorem kZx {h : GH} {β : Nat → Nat} {bx : Bx} : ∀ {ps : List SD} {vs : List Value} {k t : Nat} {sd : SD}, AllS h β bx ps vs → look (argS ps k) t = some sd → ∃ v, k ≤ t ∧ vs[t - k]? = some v ∧ sd.ok h β v ∧ sd.live bx
 | [], _, _, _, _, _, h => by cases h
 | p :: ps, v :: vs, k, t, sd, ⟨a, a', b⟩, h => by
  unfold argS at h
  rw [aZc] at h
  split at h
  ·rename_i e; subst e; cases h; exact ⟨v, Nat.le_refl _, by simp, a, a'⟩
  ·obtain ⟨u, h1, h2, h3⟩ := kZx b h
   refine ⟨u, oM, ?_, h3⟩
   rw [show t - k = (t - (k + 1)) + 1 by omega]
   simpa using h2
 | _ :: _, [], _, _, _, h, _ => h.elim
def RetG (P : Program) (fn : Func) (σ : St) (r : SD) (bx' : Bx) : Prop :=
 (subBx σ.bx bx' ∧ LKeep σ.bx bx') ∧ ∀ En n w0 h0 c h β a w, Inv En w0 h0 c h β σ.bx w → Slots n h β σ.sl σ.bx a → ∃ v, (results fn a.tmps).run P w = .ok v w ∧ r.ok h β v ∧ r.live bx'
def kFnG (P : Program) (fn : Func) (r : SD) (bx' : Bx) : Exit → St → Prop
 | .normal, σ => RetG P fn σ r bx'
 | .ret, σ => RetG P fn σ r bx'
 | .exit _, _ => False
 | .goto _, _ => False
 | .panic _, _ => False
 | .outgrown, _ => False
theorem aZr {P : Program} {En : Ev} {f : FuncId} {fn : Func} {co : Code} {n : Nat} {az : List SD} {bx : Bx} {r : SD} {bx' : Bx} (hf : P.funcs[f]? = some fn) (hb : fn.body = some co) (hn : fn.ntmps = n) (hl : Nat.ble az.length n = true)
  (H : ∀ w0 h0 c, WpD P En n w0 h0 c co (kFnG P fn r bx') ⟨argS az 0, bx⟩) : FnG P En f az bx r bx' := by
 subst hn
 intro h β w vs hen hh hbx hS hv
 refine calls_of_wp hf hb ?_
 have hle : vs.length ≤ fn.ntmps := by rw [← hv.length]; exact Nat.le_of_ble_eq_true hl
 refine H w h ⟨fun i => ∃ ps, look bx i = some ps ∧ ps ≠ [], β⟩ _ _ w ⟨h, β, ⟨hen, hh, Le.refl _, fun b o v e e0 => (by rw [e] at e0; cases e0), BelowM.refl _ _, ?_, fun _ _ => rfl, fun i ps hp hps => ?_, hbx.inj⟩, rfl, ?_, fun t sd ht => ?_⟩ ?_
 ·rintro k ⟨i, ⟨ps, hp, hps⟩, rfl⟩; exact (hS i ps hp hps).2
 ·obtain ⟨g1, us, rs, T', g2, g3, g4⟩ := hbx.box i ps hp hps
  have := (hS i ps hp hps).1
  exact ⟨⟨fun hlt => absurd this oM, fun _ => ⟨ps, hp, hps⟩⟩, g1, us, rs, T', g2, g3, fun hg => absurd hg.2 oM, g4⟩
 ·simp; omega
 ·obtain ⟨v, _, h2, h3, h4⟩ := kZx hv ht
  have h2' : vs[t]? = some v := by simpa using h2
  have hlt := (List.getElem?_eq_some_iff.1 h2').1
  refine ⟨v, ?_, h3, h4⟩
  rw [Array.getElem?_append_left (by simpa using hlt)]
  simpa using h2'
 ·intro e τ a' w' hk hg
  have fin : RetG P fn τ r bx' → a'.defers = [] ∧ ∃ v, (results fn a'.tmps).run P w' = .ok v w' ∧ GPost h β bx w r bx' (.returned v) w' := fun hR => by
   obtain ⟨h', β', hi, hs⟩ := hg
   obtain ⟨⟨hsub, hkeep⟩, hR⟩ := hR
   obtain ⟨v, h1, h2, h3⟩ := hR _ _ _ _ _ _ _ _ _ hi hs
   have hne : ∀ i ps, look bx' i = some ps → ps ≠ [] → ∃ ps', look τ.bx i = some ps' ∧ ps' ≠ [] ∧ PsLe ps' ps := fun i ps hp hps => by
    rcases cZD hsub hp with ⟨ps', g1, g2⟩ | rfl
    ·exact ⟨ps', g1, by rintro rfl; exact hps g2.nil, g2⟩
    ·exact absurd rfl hps
   refine ⟨hs.defers, v, h1, v, h', β', rfl, hi.le0, hi.holds, hi.fresh, hi.below, ⟨fun i ps hp hps => ?_, fun i j ps qs hp hps hq hqs => ?_⟩, hi.pin, fun i ps hp hps => ?_, h2, h3⟩
   ·obtain ⟨ps', g1, g3, g2⟩ := hne i ps hp hps
    obtain ⟨_, r2, us, rs, T', r3, r4, _, r6⟩ := hi.box i ps' g1 g3
    obtain ⟨v1, v2, e, hv⟩ := g2.all r4
    have e2 : tI i β' us = tI i β' v1 ++ tI i β' v2 := by rw [e]; unfold tI; cases lk i <;> simp
    exact ⟨r2, v1, tI i β' v2 ++ rs, T', by rw [← List.append_assoc, ← e2]; exact r3, hv, hkeep.refs hp hv (fun v hv => by rw [e]; exact List.mem_append_left _ hv) r6⟩
   ·obtain ⟨ps', g1, g3, _⟩ := hne i ps hp hps
    obtain ⟨qs', k1, k3, _⟩ := hne j qs hq hqs
    exact hi.inj i j _ _ g1 g3 k1 k3
   ·obtain ⟨ps', g1, g3, _⟩ := hne i ps hp hps
    exact (hi.box i ps' g1 g3).1
  cases e with
  | normal => exact fin hk
  | ret => exact fin hk
  | exit i => exact hk.elim
  | goto i => exact hk.elim
  | panic i => exact hk.elim
  | outgrown => exact hk.elim
theorem dZm {P : Program} {fn : Func} {σ : St} {r : SD} {bx' : Bx} {t : Nat} {sd : SD} (hf : fn.results = #[.tmp t]) (h1 : look σ.sl t = some sd) (hr : SLe sd r) (hl : r.live bx') (hs : subBx σ.bx bx') (hk : LKeep σ.bx bx' := by exact eZg rfl) : RetG P fn σ r bx' := by
 refine ⟨⟨hs, hk⟩, fun En n w0 h0 c h β a w hi hsl => ?_⟩
 obtain ⟨v, hv, ho, _⟩ := hsl.slot t sd h1
 exact ⟨v, by rw [bZD, hf]; simp [gZ5, hv], hr.ok ho, hl⟩
theorem oZq {P : Program} {fn : Func} {σ : St} {bx' : Bx} (hf : fn.results = #[]) (hs : subBx σ.bx bx') (hk : LKeep σ.bx bx' := by exact eZg rfl) : RetG P fn σ (.one (ex (.tuple #[]))) bx' :=
 ⟨⟨hs, hk⟩, fun _ _ _ _ _ _ _ _ _ _ _ => ⟨.tuple #[], by rw [bZD, hf]; simp, rfl, trivial⟩⟩
section
variable {P : Program} {En : Ev} {n : Nat} {sl : Sl} {bx : Bx} {dst : Option Tmp} {ty : TypeId} {pos : String} {after : Array Edge} {guard : Option (Nat × Bool)}
def argM (sl : Sl) (cb : Bx) (μ : Nat → Nat) (x : Operand) : SD → Prop
 | .one p => osd sl x = some (.one p)
 | .ptr i o => osd sl x = some (.ptr (μ i) o) ∧ look cb i ≠ none
 | .own i o l k => osd sl x = some (.own (μ i) o l k) ∧ look cb i ≠ none
 | _ => False
def iZZ (sl : Sl) (cb : Bx) (μ : Nat → Nat) : List Operand → List SD → Prop
 | [], [] => True
 | x :: xs, s :: ss => argM sl cb μ x s ∧ iZZ sl cb μ xs ss
 | _, _ => False
def dZe (bx : Bx) (μ : Nat → Nat) : Bx → Prop
 | [] => True
 | (i, ps) :: l => look bx (μ i) = some ps ∧ dZe bx μ l
theorem aZX {bx : Bx} {μ : Nat → Nat} : ∀ {cb : Bx}, dZe bx μ cb → ∀ {i ps}, look cb i = some ps → look bx (μ i) = some ps
 | [], _, _, _, h => by cases h
 | (k, x) :: l, ⟨h1, h3⟩, t, sd, h => by
  rw [aZc] at h
  split at h
  ·rename_i e; subst e; cases h; exact h1
  ·exact aZX h3 h
def eqL : List Nat → List Nat → Bool
 | [], [] => true
 | x :: l, y :: m => Nat.beq x y && eqL l m
 | _, _ => false
theorem kZl : ∀ {l m : List Nat}, eqL l m = true → l = m
 | [], [], _ => rfl
 | x :: l, y :: m, h => by
  simp only [eqL, Bool.and_eq_true] at h
  rw [Nat.eq_of_beq_eq_true h.1, kZl h.2]
 | [], _ :: _, h => by cases h
 | _ :: _, [], h => by cases h
def hZD : List Nat → Bool
 | [] => true
 | x :: l => l.all (fun y => !Nat.beq x y) && hZD l
def gZj (μ : Nat → Nat) (ks ks' : List Nat) : Bool := eqL ks ks' && ks.all (fun k => Nat.ble 1000 k && (Nat.blt (μ k) 400 || Nat.ble 1000 (μ k)) && !lk k && !lk (μ k)) && hZD (ks.map μ)
theorem dZ0 {μ : Nat → Nat} : ∀ {ks : List Nat}, hZD (ks.map μ) = true → ∀ i ∈ ks, ∀ j ∈ ks, μ i = μ j → i = j
 | [], _, i, hi, _, _, _ => by cases hi
 | x :: l, h, i, hi, j, hj, e => by
  simp only [List.map_cons, hZD, Bool.and_eq_true] at h
  have hx : ∀ y ∈ l, μ x ≠ μ y := fun y hy => by
   have := List.all_eq_true.1 h.1 (μ y) (List.mem_map.2 ⟨y, hy, rfl⟩)
   intro he
   rw [he] at this
   simp at this
  rcases List.mem_cons.1 hi with ei | hi2 <;> rcases List.mem_cons.1 hj with ej | hj2
  ·rw [ei, ej]
  ·rw [ei] at e; exact absurd e (hx j hj2)
  ·rw [ej] at e; exact absurd e.symm (hx i hi2)
  ·exact dZ0 h.2 i hi2 j hj2 e
theorem aZC {bx : Bx} {i : Nat} (h : look bx i ≠ none) : i ∈ bx.map (·.1) := by
 by_cases hm : i ∈ bx.map (·.1)
 ·exact hm
 ·exact absurd (dZq hm) h
theorem bZQ {bx : Bx} {i : Nat} (h : i ∈ bx.map (·.1)) : look bx i ≠ none := by
 induction bx with
 | nil => cases h
 | cons x l ih =>
  obtain ⟨k, x⟩ := x
  rw [aZc]
  split
  ·simp
  ·rename_i hne
   refine ih ?_
   simp only [List.map_cons, List.mem_cons] at h
   rcases h with h | h
   ·exact absurd h.symm hne
   ·exact h
theorem gZL {μ : Nat → Nat} : ∀ {cb : Bx} {j : Nat} {qs : List Pd}, look (cb.map fun x => (μ x.1, x.2)) j = some qs → ∃ i, μ i = j ∧ look cb i = some qs
 | [], _, _, h => by cases h
 | (k, x) :: l, j, qs, h => by
  rw [List.map_cons, aZc] at h
  split at h
  ·rename_i e; cases h; exact ⟨k, e, by rw [aZc, if_pos rfl]⟩
  ·rename_i e
   obtain ⟨i, h1, h2⟩ := gZL h
   exact ⟨i, h1, by rw [aZc, if_neg (by rintro rfl; exact e h1)]; exact h2⟩
theorem cZr {f : FuncId} (hb : Body P f) (vs : List Value) (w : World) : (callFunc f vs.toArray).run P w = .ok (.enter f vs.toArray) w := by
 obtain ⟨fn, hfn, hbody, hname⟩ := hb
 simp only [callFunc, Sem.run_bind, run_program, Result.andThen_ok, hfn, hname, hbody]
 simp
theorem lZc {w0 : World} {h0 : GH} {c : Cx} {h : GH} {β : Nat → Nat} {w : World} (hi : Inv En w0 h0 c h β bx w) {f : FuncId} {az : List SD} {cb cb' : Bx} {r : Pd} {μ : Nat → Nat} {vs : List Value} (hf : FnG P En f az cb (.one r) cb') (ha : AllS h (fun i => β (μ i)) cb az vs) (hl : dZe bx μ cb) (hk : gZj μ (cb.map (·.1)) (cb'.map (·.1)) = true) :
  Calls P f vs.toArray w (fun e w' => ∃ v h', e = .returned v ∧ Inv En w0 h0 c h' β ((cb'.map fun x => (μ x.1, x.2)) ++ bx) w' ∧ Le h h' ∧ r.p h' v) := by
 unfold gZj at hk
 rw [Bool.and_eq_true, Bool.and_eq_true] at hk
 obtain ⟨⟨k1, k2⟩, k3⟩ := hk
 have k1 := kZl k1
 have key' : ∀ i, look cb i ≠ none → (1000 ≤ i ∧ (μ i < 500 ∨ 1000 ≤ μ i)) ∧ lk i = false ∧ lk (μ i) = false := fun i hi => by
  have := List.all_eq_true.1 k2 i (aZC hi)
  rw [Bool.and_eq_true, Bool.and_eq_true, Bool.and_eq_true, Bool.or_eq_true] at this
  obtain ⟨⟨⟨t1, t2⟩, t3⟩, t4⟩ := this
  refine ⟨⟨Nat.le_of_ble_eq_true t1, t2.imp (fun h => ?_) (fun h => Nat.le_of_ble_eq_true h)⟩, by simpa using t3, by simpa using t4⟩
  have : μ i < 400 := Nat.le_of_ble_eq_true h
  omega
 have key : ∀ i, look cb i ≠ none → 1000 ≤ i ∧ (μ i < 500 ∨ 1000 ≤ μ i) := fun i hi => (key' i hi).1
 have minj : ∀ i j, look cb i ≠ none → look cb j ≠ none → μ i = μ j → i = j := fun i j h1 h2 => dZ0 k3 i (aZC h1) j (aZC h2)
 have hS : ∀ k, En.S k → k < w0.heap.size := fun k hk => En.lt _ hi.env k hk
 have blk : ∀ i ps, look cb i = some ps → ps ≠ [] → (w0.heap.size ≤ β (μ i) ∨ c.M (β (μ i))) := fun i ps hp hps => by
  obtain ⟨q1, _⟩ := hi.box (μ i) ps (aZX hl hp) hps
  rcases Nat.lt_or_ge (μ i) 1000 with hlt | hge
  ·exact .inl (q1.1 hlt)
  ·exact .inr ⟨μ i, q1.2 hge, hi.pin _ hge⟩
 refine Calls.mono (hf h _ w vs hi.envNow hi.holds ⟨fun i ps hp hps => ?_, fun i j ps qs hp hps hq hqs e => ?_⟩ (fun i ps hp hps => ⟨(key i (by rw [hp]; simp)).1, fun hk => ?_⟩) ha) ?_
 ·obtain ⟨_, q2, us, rs, T', q3, q4, _⟩ := hi.box0 (μ i) ps (aZX hl hp) hps (key' i (by rw [hp]; simp)).2.2
  have hli := (key' i (by rw [hp]; simp)).2.1
  exact ⟨q2, us, rs, T', by rw [bZ3 hli]; exact q3, q4, bZd hli _ _ _⟩
 ·exact minj i j (by rw [hp]; simp) (by rw [hq]; simp) (hi.inj _ _ _ _ (aZX hl hp) hps (aZX hl hq) hqs e)
 ·rcases blk i ps hp hps with h | h
  ·have := hS _ hk; omega
  ·exact hi.dis _ h hk
 ·rintro e w' ⟨v, h', β', rfl, g1, g2, g3, g4, g5, g6, g8, g7, _⟩
  have src : ∀ j qs, look ((cb'.map fun x => (μ x.1, x.2)) ++ bx) j = some qs → qs ≠ [] → (∃ i qs0, μ i = j ∧ look cb' i = some qs ∧ look cb i = some qs0 ∧ qs0 ≠ [] ∧ look bx j = some qs0 ∧ β' i = β j) ∨ (look bx j = some qs ∧ ∀ i, look cb i ≠ none → μ i ≠ j) := fun j qs hj hq => by
   rw [aZ0] at hj
   cases hw : look (cb'.map fun x => (μ x.1, x.2)) j with
   | some qs' =>
    rw [hw] at hj
    simp only [Option.some_or, Option.some.injEq] at hj
    subst hj
    obtain ⟨i, rfl, h2⟩ := gZL hw
    have hcn : look cb i ≠ none := bZQ (by rw [k1]; exact aZC (by rw [h2]; simp))
    have hge := (key i hcn).1
    obtain ⟨qs0, e1, e2⟩ := (g8 i _ h2 hq).2 hge
    exact .inl ⟨i, qs0, rfl, h2, e1, e2, aZX hl e1, g6 i hge⟩
   | none =>
    rw [hw] at hj
    refine .inr ⟨by simpa using hj, fun i hi' e => ?_⟩
    subst e
    have : i ∈ cb'.map (·.1) := by rw [← k1]; exact aZC hi'
    obtain ⟨y, hy, rfl⟩ := List.mem_map.1 this
    exact bZQ (bx := cb'.map fun x => (μ x.1, x.2)) (List.mem_map.2 ⟨(μ y.1, y.2), List.mem_map.2 ⟨y, hy, rfl⟩, rfl⟩) hw
  have hblk : ∀ k, k < w.heap.size → (∀ i ps, look cb i = some ps → ps ≠ [] → k ≠ β (μ i)) → w'.heap[k]? = w.heap[k]? := fun k hk hne => g4.block k hk (by rintro ⟨i, ⟨ps, h1, h2⟩, h3⟩; exact hne i ps h1 h2 h3)
  refine ⟨v, h', rfl, ⟨hi.env, g2, hi.le0.trans g1, fun b' o u e e0 => ?_, ⟨g4.os.trans hi.below.os, g4.tape.trans hi.below.tape, g4.output.trans hi.below.output, Nat.le_trans hi.below.size g4.size, fun k hk hM => ?_⟩, hi.dis, hi.pin, fun j qs hj hq => ?_, fun i j ps qs hp hps hq hqs => ?_⟩, g1, g7⟩
  ·cases he : h b' o with
   | none => exact Nat.le_trans hi.below.size (g3 b' o u e he)
   | some u' => exact hi.fresh b' o u' he e0
  ·rw [hblk k (Nat.lt_of_lt_of_le hk hi.below.size) ?_]
   ·exact hi.below.block k hk hM
   ·rintro i ps hp hps rfl
    rcases blk i ps hp hps with h | h
    ·omega
    ·exact hM h
  ·rcases src j qs hj hq with ⟨i, qs0, rfl, e2, e3, e4, e5, e6⟩ | ⟨e1, e2⟩
   ·obtain ⟨q1, _⟩ := hi.box (μ i) qs0 e5 e4
    obtain ⟨r1, us, rs, T', r2, r3, _⟩ := g5.box i qs e2 hq
    have hkk := (key' i (by rw [e3]; simp)).2
    rw [bZ3 hkk.1] at r2
    rw [e6] at r1 r2
    have hng := (key i (by rw [e3]; simp)).2
    exact ⟨q1, r1, us, rs, T', by rw [bZ3 hkk.2]; exact r2, r3, fun hg => absurd hg uG, bZd hkk.2 _ _ _⟩
   ·obtain ⟨r0, r1, us, rs, T', r2, r3, r4, r5⟩ := hi.box j qs e1 hq
    refine ⟨r0, fun o => ?_, us, rs, T', ?_, r3.mono g1, r4, cZX r5 fun r hr => by rw [aZ0]; cases look (cb'.map fun x => (μ x.1, x.2)) r <;> simp; exact hr⟩
    ·cases he : h' (β j) o with
     | none => rfl
     | some u =>
      have := g3 _ _ _ he (r1 o)
      have := aZM r2
      omega
    ·rw [hblk _ (aZM r2) ?_]
     ·exact r2
     ·intro i ps hp hps hh
      exact e2 i (by rw [hp]; simp) (hi.inj _ _ _ _ (aZX hl hp) hps e1 hq hh.symm)
  ·have old : ∀ j qs, look ((cb'.map fun x => (μ x.1, x.2)) ++ bx) j = some qs → qs ≠ [] → ∃ qs', look bx j = some qs' ∧ qs' ≠ [] := fun j qs hj hq => by
    rcases src j qs hj hq with ⟨i, qs0, _, _, _, e4, e5, _⟩ | ⟨e1, _⟩
    ·exact ⟨qs0, e5, e4⟩
    ·exact ⟨qs, e1, hq⟩
   obtain ⟨ps', a1, a2⟩ := old i ps hp hps
   obtain ⟨qs', b1, b2⟩ := old j qs hq hqs
   exact hi.inj i j _ _ a1 a2 b1 b2
theorem eZY {h : GH} {β : Nat → Nat} {bx' : Bx} {a : Act} {cb : Bx} {μ : Nat → Nat} {sl' : Sl} (hs : Slots n h β sl' bx' a) : ∀ {xs : List Operand} {az : List SD}, (∀ x ∈ xs, osd sl' x = osd sl x) → iZZ sl cb μ xs az → AllS h (fun i => β (μ i)) cb az (xs.map a.eval)
 | [], [], _, _ => trivial
 | x :: xs, s :: ss, hx, ⟨e1, e2⟩ => by
  have hxx := hx x (by simp)
  refine ⟨?_, ?_, eZY hs (fun y hy => hx y (by simp [hy])) e2⟩
  ·cases s with
   | one p => exact (aZI hs (x := x) (sd := .one p) (by rw [hxx]; exact e1)).1
   | ptr i o => exact (aZI hs (x := x) (sd := .ptr (μ i) o) (by rw [hxx]; exact e1.1)).1
   | own i o l k => exact (aZI hs (x := x) (sd := .own (μ i) o l k) (by rw [hxx]; exact e1.1)).1
   | app i k l => exact e1.elim
   | clo f bs => exact e1.elim
   | pin i x => exact e1.elim
   | gen g => exact e1.elim
  ·cases s with
   | one p => trivial
   | ptr i o => exact e1.2
   | own i o l k => exact e1.2
   | app i k l => exact e1.elim
   | clo f bs => exact e1.elim
   | pin i x => exact e1.elim
   | gen g => exact e1.elim
 | [], _ :: _, _, h => h.elim
 | _ :: _, [], _, h => h.elim
theorem aZT {f : FuncId} {rb : List Nat} {wb : Bx} {xs : List Operand} {ats : Array TypeId} {az : List SD} {cb cb' : Bx} {r : Pd} (μ : Nat → Nat) [hb : CBody P f] (hf : FnG P En f az cb (.one r) cb') (ha : iZZ sl cb μ xs az) (hl : dZe bx μ cb) (hk : gZj μ (cb.map (·.1)) (cb'.map (·.1)) = true) (hrb : cb.map (fun x => μ x.1) = rb) (hwb : (cb'.map fun x => (μ x.1, x.2)) = wb) :
  RT P En n ⟨dst, .call ⟨.value (.func f), xs.toArray, ats⟩, ty, pos, after, guard⟩ sl bx ⟨.one r, rb, wb⟩ := by
 subst hrb
 subst hwb
 intro sl' bx' h1 h2 _ w0 h0 c h β a w Q hi hs
 have hl' : dZe bx' μ cb := by
  have : ∀ l : Bx, (∀ x ∈ l, x ∈ cb) → dZe bx μ l → dZe bx' μ l := by
   intro l
   induction l with
   | nil => intro _ _; trivial
   | cons x l ih =>
    intro hm hx
    exact ⟨by rw [h2 _ (List.mem_map.2 ⟨x, hm x (by simp), rfl⟩)]; exact hx.1, ih (fun y hy => hm y (by simp [hy])) hx.2⟩
  exact this cb (fun _ h => h) hl
 unfold Oper.wp
 rw [execOp_call_go, show (#[] ++ xs.toArray.map a.eval ++ #[]) = (xs.map a.eval).toArray by simp, cZr hb.ok]
 refine Calls.mono (lZc hi hf (eZY hs (fun x hx => h1 x (by simp [Op.operands, Call.operands, hx])) ha) hl' hk) ?_
 rintro e w' ⟨v, h', rfl, q1, q2, q3⟩
 exact ⟨v, h', β, rfl, q1, q2, fun _ _ => rfl, q3, trivial⟩
theorem dZw {f : FuncId} {g : Nat} {xs : List Operand} {ats : Array TypeId} {ps : List Pd} {r : Pd} [hb : CBody P f] (hg : look sl g = some (.one (ex (.func (.func f) #[] #[])))) (hf : Fn P En f ps r) (ha : args sl xs ps) :
  RT P En n ⟨dst, .call ⟨.value (.tmp g), xs.toArray, ats⟩, ty, pos, after, guard⟩ sl bx ⟨.one r, [], []⟩ := by
 intro sl' bx' h1 _ _ w0 h0 c h β a w Q hi hs
 have hargs : AllV h ps (xs.map a.eval) := fZE ha (fun x hx s hxs => aZI hs (by rw [h1 x (by simp [Op.operands, Call.operands, hx])]; exact hxs))
 have hv : a.eval (.tmp g) = .func (.func f) #[] #[] := (aZI hs (x := .tmp g) (sd := .one (ex (.func (.func f) #[] #[]))) (by rw [h1 (.tmp g) (by simp [Op.operands, Call.operands])]; exact hg)).1
 unfold Oper.wp
 have hrun : (execOp a.eval ⟨dst, .call ⟨.value (.tmp g), xs.toArray, ats⟩, ty, pos, after, guard⟩).run P w = .ok (.enter f (xs.map a.eval).toArray) w := by
  simp only [execOp, resolve, hv, Deferred.ofValue, Sem.run_bind, Sem.run_pure, Result.andThen_ok, invoke]
  rw [show (#[] ++ xs.toArray.map a.eval ++ #[]) = (xs.map a.eval).toArray by simp]
  exact cZr hb.ok _ w
 rw [hrun]
 refine Calls.mono (hf h w _ hi.envNow hi.holds hargs) ?_
 rintro e w' ⟨v, h', rfl, g1, g2, g3, g4, g5⟩
 exact ⟨v, h', β, rfl, hi.call g1 g2 g3 g4, g1, fun _ _ => rfl, g5, trivial⟩
theorem gZ7 {f : FuncId} {xs : List Operand} {ats : Array TypeId} {az : List Pd} {qs : List Pd} {k o len cap d : Nat} [hb : CBody P f] (hf : FnG P En f (az.map .one) [] (.own k o len cap) [(k, qs)]) (hk : Nat.blt k 1000 = true) (ha : args sl xs az) (hd : Nat.blt d 400 = true) (hn : look bx d = none) (hlk : lk k = false := by rfl) :
  RT P En n ⟨some d, .call ⟨.value (.func f), xs.toArray, ats⟩, ty, pos, after, guard⟩ sl bx ⟨.own d o len cap, [], [(d, qs)]⟩ := by
 intro sl' bx' h1 _ h3 w0 h0 c h β a w Q hi hs
 have hd : d < 400 := Nat.le_of_ble_eq_true hd
 have hn' : look bx' d = none := by rw [h3 d (by simp)]; exact hn
 have hargs : AllV h az (xs.map a.eval) := fZE ha (fun x hx s hxs => aZI hs (by rw [h1 x (by simp [Op.operands, Call.operands, hx])]; exact hxs))
 have hargs' : ∀ (az : List Pd) (vs : List Value), AllV h az vs → AllS h β [] (az.map .one) vs := by
  intro az
  induction az with
  | nil => intro vs h; cases vs with
   | nil => trivial
   | cons => exact h.elim
  | cons p ps ih => intro vs h; cases vs with
   | nil => exact h.elim
   | cons v vs => exact ⟨h.1, trivial, ih vs h.2⟩
 unfold Oper.wp
 rw [execOp_call_go]
 rw [show (#[] ++ xs.toArray.map a.eval ++ #[]) = (xs.map a.eval).toArray by simp, cZr hb.ok]
 refine Calls.mono (hf h β w _ hi.envNow hi.holds ⟨fun i qs hq => (by cases hq), fun i j ps qs hi' => (by cases hi')⟩ (fun i ps hi' => (by cases hi')) (hargs' _ _ hargs)) ?_
 rintro e w' ⟨v, h', β', rfl, g1, g2, g3, g4, g5, g6, g8, g7, _⟩
 have hbel : Below w.heap.size w w' := ⟨g4.os, g4.tape, g4.output, g4.size, fun k hk => g4.block k hk (by rintro ⟨i, ⟨ps, hi', _⟩, _⟩; cases hi')⟩
 have hI := hi.call g1 g2 g3 hbel
 have hqk : look ([(k, qs)] : Bx) k = some qs := by rw [aZc, if_pos rfl]
 have hnew : qs ≠ [] → w.heap.size ≤ β' k := fun hq => (g8 k qs hqk hq).1 (Nat.le_of_ble_eq_true hk)
 have hlt : ∀ j ps, look bx' j = some ps → ps ≠ [] → β j < w.heap.size := fun j ps hj hp => by
  obtain ⟨_, _, us, rs, T', h3, _⟩ := hi.box j ps hj hp
  exact aZM h3
 refine ⟨v, h', upd β d (β' k), rfl, ⟨hI.env, hI.holds, hI.le0, hI.fresh, hI.below, hI.dis, fun j hj => ?_, fun j ps hj hp => ?_, fun i j ps qs' hi' hp hj' hq e => ?_⟩, g1, fun j hj => aZ3 (by rintro rfl; exact hj hn'), ?_, ?_⟩
 ·rw [aZ3 oM]; exact hI.pin j hj
 ·rw [List.singleton_append, aZc] at hj
  by_cases e : d = j
  ·subst e
   rw [if_pos rfl] at hj
   cases hj
   rw [aZZ]
   obtain ⟨r1, us, rs, T', r2, r3, _⟩ := g5.box k qs hqk hp
   rw [bZ3 hlk] at r2
   exact ⟨⟨fun _ => Nat.le_trans hi.below.size (hnew hp), fun h => absurd hd oM⟩, r1, us, rs, T', by rw [bZ3 (bZL hd)]; exact r2, r3, fun hg => absurd hg.1 oM, bZd (bZL hd) _ _ _⟩
  ·rw [if_neg e] at hj
   rw [aZ3 (fun h => e (Eq.symm h))]
   obtain ⟨r0, r1, us, rs, T', r2, r3, r4, r5⟩ := hI.box j ps hj hp
   obtain ⟨k1, k2⟩ := bZE (β' := upd β d (β' k)) (bx' := (d, qs) :: bx') r5 (fun r hr => ⟨by rw [aZc]; split <;> simp; exact hr, aZ3 (by rintro rfl; exact hr hn')⟩)
   exact ⟨r0, r1, us, rs, T', by rw [k2]; exact r2, r3, fun hg => by rw [aZ3 (by have := hg.1; omega)]; exact r4 hg, k1⟩
 ·rw [List.singleton_append, aZc] at hi' hj'
  by_cases e1 : d = i <;> by_cases e2 : d = j
  ·rw [← e1, ← e2]
  ·subst e1
   rw [aZZ, aZ3 (fun h => e2 (Eq.symm h))] at e
   rw [if_neg e2] at hj'
   rw [if_pos rfl] at hi'
   cases hi'
   have := hlt j _ hj' hq
   have := hnew hp
   omega
  ·subst e2
   rw [aZZ, aZ3 (fun h => e1 (Eq.symm h))] at e
   rw [if_neg e1] at hi'
   rw [if_pos rfl] at hj'
   cases hj'
   have := hlt i _ hi' hp
   have := hnew hq
   omega
  ·rw [aZ3 (fun h => e1 (Eq.symm h)), aZ3 (fun h => e2 (Eq.symm h))] at e
   rw [if_neg e1] at hi'
   rw [if_neg e2] at hj'
   exact hI.inj i j _ _ hi' hp hj' hq e
 ·obtain ⟨cap', g7, hc⟩ : ∃ cap', v = .slice (some ⟨β' k, o, none⟩) len cap' ∧ cap ≤ cap' ∧ cap' ≤ maxLen := g7
  exact ⟨cap', by rw [aZZ]; exact g7, hc⟩
 ·show look ((d, qs) :: bx') d ≠ none
  rw [aZc, if_pos rfl]; simp
end
end
section
open Go.RowKit Limb
def empS : Pd := ⟨fun _ v => ∃ a, v = .slice (some a) 0 0, fun _ _ _ _ h => h⟩
def magS (l : List Nat) : Pd := ⟨fun h v => (mag l).p h v ∧ ∃ a n c, v = .slice (some a) n c, fun _ _ _ hl ⟨h1, h2⟩ => ⟨(mag l).mono _ _ _ hl h1, h2⟩⟩
theorem oZB {l : List Nat} (hl : l ≠ []) : PLe (mag l) (magS l) := fun h v hm => ⟨hm, by
 obtain ⟨⟨a, cap, h1, _, _, h4⟩, _⟩ := hm
 obtain ⟨b, off, rfl, _⟩ := h4 hl
 exact ⟨_, _, _, h1⟩⟩
theorem gZr {h : GH} : ∀ l : List Nat, All2 h (l.map lb) (l.map fun (y : Nat) => Value.int .u32 (y : Int))
 | [] => trivial
 | _ :: l => ⟨rfl, rfl, gZr l⟩
theorem Fn.nil_or {P : Program} {En : Ev} {f : FuncId} {r : Pd} (h1 : Fn P En f [ex (.slice none 0 0)] r) (h2 : Fn P En f [magS []] r) : Fn P En f [mag []] r := by
 intro h w vs he hh ha
 obtain ⟨v, rfl, hv⟩ := ha.one
 obtain ⟨⟨a, cap, e, q1, ⟨q2, q3⟩, q4⟩, q5⟩ := id hv
 cases a with
 | none =>
  have := q3 rfl
  subst this
  exact h1 h w [v] he hh ⟨e, trivial⟩
 | some ad => exact h2 h w [v] he hh ⟨⟨hv, _, _, _, e⟩, trivial⟩
section
variable {P : Program} {En : Ev} {n : Nat} {sl : Sl} {bx : Bx} {dst : Option Tmp} {ty : TypeId} {pos : String} {after : Array Edge} {guard : Option (Nat × Bool)}
theorem jZ5 {T E : TypeId} {k : Nat} [hT : CElem P T E k] : RT P En n ⟨dst, .buildSlice T 0 #[], ty, pos, after, guard⟩ sl bx ⟨.one empS, [], []⟩ := by
 intro sl' bx' h1 _ _ w0 h0 c h β a w Q hi hs
 obtain ⟨e1, e2⟩ := hT.ok
 obtain ⟨inf, e3, e4⟩ := Option.map_eq_some_iff.1 e2
 have hrun : (execOp a.eval ⟨dst, .buildSlice T 0 #[], ty, pos, after, guard⟩).run P w = .ok (.value (.slice (some ⟨w.heap.size, 0, none⟩) 0 0)) (w.alloc (.cells #[] E)) := by
  simp [execOp, Instr.buildSlice, run_underlying e1, sizeOf, run_typeInfo _ e3, Instr.fill, newRow, Array.range_zero']
 unfold Oper.wp
 rw [hrun]
 have hb : Below w.heap.size w (w.alloc (.cells #[] E)) := (Below.refl _ _).alloc (Nat.le_refl _) _
 refine ⟨_, h, β, rfl, hi.call (Le.refl _) (fun b o v e => ?_) (fun b o v e e0 => by rw [e] at e0; cases e0) hb, Le.refl _, fun _ _ => rfl, ⟨_, rfl⟩, trivial⟩
 rw [World.cell?_of_block (w := w) (a := ⟨b, o, none⟩) (Below.heap_alloc w _ b (hi.holds.lt e))]
 exact hi.holds b o v e
theorem rc_nilT {T E : TypeId} {x : Operand} {T' : TypeId} [hT : CSlice P T E] (hx : osd sl x = some (.one (ex (.slice none 0 0)))) : RT P En n ⟨dst, .binOp .eql T x (.const (.slice none 0 0)) T', ty, pos, after, guard⟩ sl bx ⟨.one (ex (.bool true)), [], []⟩ :=
 RT.pure fun ρ h β bx' H => by
  have hv : ρ x = .slice none 0 0 := (H x (by simp [Op.operands]) _ hx).1
  have hc : ρ (.const (.slice none 0 0)) = .slice none 0 0 := (H (.const (.slice none 0 0)) (by simp [Op.operands]) _ rfl).1
  refine ⟨.bool true, fun w _ => ?_, rfl, trivial⟩
  have := run_equal_slice_nil (P := P) w T E none 0 0 hT.ok
  simp [execOp, eqGuard, Go.binOp, hv, hc, this]
theorem rc_nilF {T E : TypeId} {x : Operand} {T' : TypeId} {l : List Nat} [hT : CSlice P T E] (hx : osd sl x = some (.one (magS l))) : RT P En n ⟨dst, .binOp .eql T x (.const (.slice none 0 0)) T', ty, pos, after, guard⟩ sl bx ⟨.one (ex (.bool false)), [], []⟩ :=
 RT.pure fun ρ h β bx' H => by
  obtain ⟨_, a, k, c, hv⟩ : (magS l).p h (ρ x) := (H x (by simp [Op.operands]) _ hx).1
  have hc : ρ (.const (.slice none 0 0)) = .slice none 0 0 := (H (.const (.slice none 0 0)) (by simp [Op.operands]) _ rfl).1
  refine ⟨.bool false, fun w _ => ?_, rfl, trivial⟩
  have := run_equal_slice_nil (P := P) w T E (some a) k c hT.ok
  simp [execOp, eqGuard, Go.binOp, hv, hc, this]
theorem rc_nilM {T E : TypeId} {x : Operand} {T' : TypeId} {l : List Nat} [hT : CSlice P T E] (hl : l ≠ []) (hx : osd sl x = some (.one (mag l))) : RT P En n ⟨dst, .binOp .eql T x (.const (.slice none 0 0)) T', ty, pos, after, guard⟩ sl bx ⟨.one (ex (.bool false)), [], []⟩ :=
 RT.pure fun ρ h β bx' H => by
  obtain ⟨_, a, k, c, hv⟩ : (magS l).p h (ρ x) := oZB hl _ _ (H x (by simp [Op.operands]) _ hx).1
  have hc : ρ (.const (.slice none 0 0)) = .slice none 0 0 := (H (.const (.slice none 0 0)) (by simp [Op.operands]) _ rfl).1
  refine ⟨.bool false, fun w _ => ?_, rfl, trivial⟩
  have := run_equal_slice_nil (P := P) w T E (some a) k c hT.ok
  simp [execOp, eqGuard, Go.binOp, hv, hc, this]
theorem rt_idx {T : TypeId} {x ix : Operand} {vx vi v : Value} (hx : osd sl x = some (.one (ex vx))) (hi : osd sl ix = some (.one (ex vi))) (hr : ∀ w, (Instr.index T vx vi).run P w = .ok v w) : RT P En n ⟨dst, .index T x ix, ty, pos, after, guard⟩ sl bx ⟨.one (ex v), [], []⟩ :=
 RT.pure fun ρ _ _ _ H => by
  have h1 : ρ x = vx := (H x (by simp [Op.operands]) _ hx).1
  have h2 : ρ ix = vi := (H ix (by simp [Op.operands]) _ hi).1
  refine ⟨v, fun w _ => ?_, rfl, trivial⟩
  simp only [execOp, h1, h2]
  rw [Sem.run_bind, hr w]
  rfl
theorem cZm (a : Act) (s x : Operand) (T : TypeId) (w : World) {v : Value} {w' : World} (h : (Builtin.append_ #[T, T] ty #[a.eval s, a.eval x]).run P w = .ok v w') : (execOp a.eval ⟨dst, .call ⟨.builtin .append, #[s, x], #[T, T]⟩, ty, pos, after, guard⟩).run P w = .ok (.value v) w' := by
 simp only [execOp, resolve, invoke, builtin, Sem.run_bind, Sem.run_pure, Result.andThen_ok, List.map_toArray, List.map_cons, List.map_nil, h]
theorem kZF {T E : TypeId} {s x : Operand} {bytes : Nat} {z : Value} [hT : CElem P T E 1] [hz : CZero1 P E z bytes] (h1 : osd sl s = some (.one empS)) (h2 : osd sl x = some (.one (magS []))) :
  RT P En n ⟨dst, .call ⟨.builtin .append, #[s, x], #[T, T]⟩, ty, pos, after, guard⟩ sl bx ⟨.one (mag []), [], []⟩ := by
 intro sl' bx' g1 _ _ w0 h0 c h β a w Q hi hs
 obtain ⟨b, hb⟩ : empS.p h (a.eval s) := (aZI hs (x := s) (sd := .one empS) (by rw [g1 s (by simp [Op.operands, Call.operands])]; exact h1)).1
 obtain ⟨hm, ad, k, cp, hx⟩ : (magS []).p h (a.eval x) := (aZI hs (x := x) (sd := .one (magS [])) (by rw [g1 x (by simp [Op.operands, Call.operands])]; exact h2)).1
 obtain ⟨⟨a', cap', e, _⟩, _⟩ := hm
 rw [hx] at e
 injection e with e1 e2 e3
 obtain ⟨hz1, hz2⟩ := hz.ok
 obtain ⟨inf, q1, q2⟩ := Option.map_eq_some_iff.1 hz1
 simp only [Prod.mk.injEq] at q2
 obtain ⟨q3, q4, q5⟩ := q2
 have hr : (Builtin.append_ #[T, T] ty #[.slice (some b) 0 0, .slice (some ad) 0 cp]).run P w = .ok (.slice (some b) 0 0) w := by
  have hfc := run_firstCells_some (P := P) w inf.size 0 ad 0 cp [] (by simp) (by simp)
  simp [Builtin.append_, run_underlying hT.ok.1, sizeOf, run_typeInfo _ q1, Builtin.lenOf, hfc, storeCells]
 unfold Oper.wp
 rw [cZm a s x T w (v := .slice (some b) 0 0) (w' := w) (by rw [hb, hx, e2]; exact hr)]
 exact ⟨_, h, β, rfl, hi, Le.refl _, fun _ _ => rfl, ⟨⟨some b, 0, rfl, Nat.le_refl _, ⟨by unfold maxLen; omega, fun h => by cases h⟩, fun h => absurd rfl h⟩, Lm.nil⟩, trivial⟩
theorem kZA {T E : TypeId} {s x : Operand} {bytes d : Nat} {z : Value} {l : List Nat} [hT : CElem P T E 1] [hz : CZero1 P E z bytes] (h1 : osd sl s = some (.one empS)) (h2 : osd sl x = some (.one (mag l))) (hl : l ≠ []) (hlen : l.length ≤ maxLen) (hby : l.length * bytes ≤ 140737488355328) (hd : Nat.blt d 400 = true) (hn : look bx d = none) :
  RT P En n ⟨some d, .call ⟨.builtin .append, #[s, x], #[T, T]⟩, ty, pos, after, guard⟩ sl bx ⟨.own d 0 l.length l.length, [], [(d, l.map lb)]⟩ := by
 intro sl' bx' g1 _ g3 w0 h0 c h β a w Q hi hs
 have hd : d < 400 := Nat.le_of_ble_eq_true hd
 have hn' : look bx' d = none := by rw [g3 d (by simp)]; exact hn
 obtain ⟨b, hb⟩ : empS.p h (a.eval s) := (aZI hs (x := s) (sd := .one empS) (by rw [g1 s (by simp [Op.operands, Call.operands])]; exact h1)).1
 obtain ⟨⟨a', cap', hx, _, _, h4⟩, hlm⟩ : (mag l).p h (a.eval x) := (aZI hs (x := x) (sd := .one (mag l)) (by rw [g1 x (by simp [Op.operands, Call.operands])]; exact h2)).1
 obtain ⟨bb, off, rfl, hc⟩ := h4 hl
 obtain ⟨hz1, hz2⟩ := hz.ok
 obtain ⟨inf, q1, q2⟩ := Option.map_eq_some_iff.1 hz1
 simp only [Prod.mk.injEq] at q2
 obtain ⟨q3, q4, q5⟩ := q2
 have hpos : 0 < l.length := List.length_pos_iff.2 hl
 obtain ⟨v', w', hr, hown, hgrow⟩ := run_append_arg_grows (P := P) w T ty E inf z 1 bytes hT.ok.1 q1 q3 q4 q5 (by rw [bZG hz2]; rfl) oM b 0 0 [] (by simp) (by simp) ⟨bb, off, none⟩ l.length cap' (l.map fun (y : Nat) => Value.int .u32 (y : Int)) (by simp) (fun j u hu => by
  rw [Addr.add_mid]
  rw [List.getElem?_map] at hu
  obtain ⟨x, hx, rfl⟩ := Option.map_eq_some_iff.1 hu
  exact hi.holds _ _ _ (hc j x hx)) oM oM (by rw [Nat.zero_add]; exact hby)
 rw [Nat.zero_add, List.nil_append] at hown
 obtain ⟨o1, o2⟩ := hown
 rcases o2 with ⟨_, o2⟩ | ⟨g, cap, cur, rfl, ob, og, on, om, os, ot⟩
 ·omega
 have hbel : Below w.heap.size w w' := ⟨hgrow.os, hgrow.tape, hgrow.output, hgrow.size, fun k hk => hgrow.block k hk (by simp)⟩
 have hI := hi.call (Le.refl h) (fun b o v e => by rw [hbel.cell (p := ⟨b, o, none⟩) (hi.holds.lt e)]; exact hi.holds b o v e) (fun b o v e e0 => by rw [e] at e0; cases e0) hbel
 have hlt : ∀ k ps, look bx' k = some ps → ps ≠ [] → β k < w.heap.size := fun k ps hk hp => by
  obtain ⟨_, _, us, rs, T', h3, _⟩ := hi.box k ps hk hp
  exact aZM h3
 have hhg : ∀ o, h g o = none := fun o => by
  cases hh : h g o with
  | none => rfl
  | some v => have := hi.holds.lt hh; omega
 have hcur : cur = ((l.map fun (y : Nat) => Value.int .u32 (y : Int)) ++ cur.toList.drop l.length).toArray := by
  rw [Nat.mul_one] at ot
  apply Array.ext'
  simp only
  rw [← ot, List.take_append_drop]
 have hall : All2 h (l.map lb) (l.map fun (y : Nat) => Value.int .u32 (y : Int)) := gZr l
 unfold Oper.wp
 rw [cZm a s x T w (v := .slice (some ⟨g, 0, none⟩) l.length cap) (w' := w') (by rw [hb, hx]; exact hr)]
 refine ⟨_, h, upd β d g, rfl, ⟨hI.env, hI.holds, hI.le0, hI.fresh, hI.below, hI.dis, fun j hj => ?_, fun j ps hj hp => ?_, fun i j ps qs hi' hp hj' hq e => ?_⟩, Le.refl _, fun j hj => aZ3 (by rintro rfl; exact hj hn'), ⟨cap, by rw [aZZ], on, om⟩, ?_⟩
 ·rw [aZ3 oM]; exact hI.pin j hj
 ·rw [List.singleton_append, aZc] at hj
  by_cases e : d = j
  ·subst e
   rw [if_pos rfl] at hj
   cases hj
   rw [aZZ]
   exact ⟨⟨fun _ => Nat.le_trans hi.below.size ob, fun h => absurd hd oM⟩, hhg, _, _, E, by rw [bZ3 (bZL hd), og, ← hcur], hall, fun hg => absurd hg.1 oM, bZd (bZL hd) _ _ _⟩
  ·rw [if_neg e] at hj
   rw [aZ3 (fun h => e (Eq.symm h))]
   obtain ⟨r0, r1, us, rs, T', r2, r3, r4, r5⟩ := hI.box j ps hj hp
   obtain ⟨k1, k2⟩ := bZE (β' := upd β d g) (bx' := (d, l.map lb) :: bx') r5 (fun r hr => ⟨by rw [aZc]; split <;> simp; exact hr, aZ3 (by rintro rfl; exact hr hn')⟩)
   exact ⟨r0, r1, us, rs, T', by rw [k2]; exact r2, r3, fun hg => by rw [aZ3 (by have := hg.1; omega)]; exact r4 hg, k1⟩
 ·rw [List.singleton_append, aZc] at hi' hj'
  by_cases e1 : d = i <;> by_cases e2 : d = j
  ·rw [← e1, ← e2]
  ·subst e1
   rw [aZZ, aZ3 (fun h => e2 (Eq.symm h))] at e
   rw [if_neg e2] at hj'
   have := hlt j _ hj' hq
   omega
  ·subst e2
   rw [aZZ, aZ3 (fun h => e1 (Eq.symm h))] at e
   rw [if_neg e1] at hi'
   have := hlt i _ hi' hp
   omega
  ·rw [aZ3 (fun h => e1 (Eq.symm h)), aZ3 (fun h => e2 (Eq.symm h))] at e
   rw [if_neg e1] at hi'
   rw [if_neg e2] at hj'
   exact hI.inj i j _ _ hi' hp hj' hq e
 ·show look ((d, _) :: bx') d ≠ none
  rw [aZc, if_pos rfl]; simp
end
theorem FnG.const {P : Program} {En : Ev} {f : FuncId} {az : List Pd} {qs : List Pd} {k o len cap : Nat} {r : Pd} (hf : FnG P En f (az.map .one) [] (.own k o len cap) [(k, qs)]) (hk : Nat.blt k 1000 = true) (hr : PLe (arrP qs o len cap) r) (hlk : lk k = false := by rfl) : Fn P En f az r := by
 intro h w vs he hh ha
 have hargs' : ∀ (az : List Pd) (vs : List Value), AllV h az vs → AllS h (fun _ => 0) [] (az.map .one) vs := by
  intro az
  induction az with
  | nil => intro vs h; cases vs with
   | nil => trivial
   | cons => exact h.elim
  | cons p ps ih => intro vs h; cases vs with
   | nil => exact h.elim
   | cons v vs => exact ⟨h.1, trivial, ih vs h.2⟩
 refine (hf h (fun _ => 0) w vs he hh ⟨fun i qs hq => (by cases hq), fun i j ps qs hi' => (by cases hi')⟩ (fun i ps hi' => (by cases hi')) (hargs' _ _ ha)).mono ?_
 rintro e w' ⟨v, h', β', rfl, g1, g2, g3, g4, g5, g6, g8, g7, _⟩
 have hbel : Below w.heap.size w w' := ⟨g4.os, g4.tape, g4.output, g4.size, fun k hk => g4.block k hk (by rintro ⟨i, ⟨ps, hi', _⟩, _⟩; cases hi')⟩
 have hqk : look ([(k, qs)] : Bx) k = some qs := by rw [aZc, if_pos rfl]
 obtain ⟨cap', g7, hc⟩ : ∃ cap', v = .slice (some ⟨β' k, o, none⟩) len cap' ∧ cap ≤ cap' ∧ cap' ≤ maxLen := g7
 by_cases hq : qs = []
 ·subst hq
  exact ⟨v, h', rfl, g1, g2, g3, hbel, hr _ _ ⟨β' k, [], cap', g7, hc, trivial, fun j u hu => by simp at hu⟩⟩
 obtain ⟨r1, us, rs, T', r2, r3, _⟩ := g5.box k qs hqk hq
 rw [bZ3 hlk] at r2
 have hnew : w.heap.size ≤ β' k := (g8 k qs hqk hq).1 (Nat.le_of_ble_eq_true hk)
 have hle := jZa (vs := us) r1
 refine ⟨v, addB h' (β' k) us, rfl, g1.trans hle, fun b j u e => ?_, fun b j u e e0 => ?_, hbel, hr _ _ ⟨β' k, us, cap', g7, hc, r3.mono hle, fun j u hu => by rw [dZc]; exact hu⟩⟩
 ·by_cases hq : b = β' k
  ·subst hq
   rw [dZc] at e
   rw [cell_of_row _ _ j _ T' _ r2]
   have hlt := (List.getElem?_eq_some_iff.1 e).1
   simpa [List.getElem?_append_left hlt] using e
  ·rw [cZp hq] at e; exact g2 b j u e
 ·by_cases hq : b = β' k
  ·subst hq; exact hnew
  ·rw [cZp hq] at e; exact g3 b j u e e0
end
section
open Go.RowKit Limb
theorem cZo {f : FuncId} {a b : Nat × Nat} {bx : Bx} (h1 : look bx a.1 ≠ none) (h2 : look bx b.1 ≠ none) : (SD.clo f [a, b]).live bx := by
 intro x hx
 simp only [List.mem_cons, List.not_mem_nil, or_false] at hx
 rcases hx with rfl | rfl
 ·exact h1
 ·exact h2
theorem bZK {f : FuncId} {a b : Nat × Nat} {d : Nat} (h1 : a.1 ≠ d) (h2 : a.1 ≠ d + 250) (h3 : b.1 ≠ d) (h4 : b.1 ≠ d + 250) : (SD.clo f [a, b]).avoid d := by
 intro x hx
 simp only [List.mem_cons, List.not_mem_nil, or_false] at hx
 rcases hx with rfl | rfl
 ·exact ⟨h1, h2⟩
 ·exact ⟨h3, h4⟩
end
end Go.Proofs.YtfmjdlogjmofbaaGreatDoor

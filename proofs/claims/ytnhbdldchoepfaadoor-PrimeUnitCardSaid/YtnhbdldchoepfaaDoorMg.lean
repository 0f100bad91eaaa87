/- Slices in the abstract walk: constant ones, and a call's own. For any program. -/
import Derived.Test.YtnhbdldchoepfaaDoorAe
import Derived.Test.YtnhbdldchoepfaaDoorLimb
namespace Go.Proofs.YtnhbdldchoepfaaDoor
open Go.RowKit Limb
/-- A slice type, its elements' type, their cells. -/
class CElem (P : Program) (T : TypeId) (E : outParam TypeId) (k : outParam Nat) : Prop where
  ok : P.underlying T = some (.slice E) ∧ (P.info? E).map (·.size) = some k
/-- A pointer to cells that stay as they are. -/
def cpR (ps : List Pd) : Pd := ⟨fun h v => ∃ b o vs, v = .pointer (some ⟨b, o, none⟩) ∧ All2 h ps vs ∧ ∀ j u, vs[j]? = some u → h b (o + j) = some u,
  fun _ _ _ hl ⟨b, o, vs, h1, h2, h3⟩ => ⟨b, o, vs, h1, h2.mono hl, fun j u hu => hl _ _ _ (h3 j u hu)⟩⟩
/-- A limb. -/
def lb (x : Nat) : Pd := ex (.int .u32 (x : Int))
instance (x : Nat) : C1 (lb x) := ⟨fun _ _ h => by rw [h]; rfl⟩
/-- A slice of limbs. -/
def mag (l : List Nat) : Pd := ⟨fun h v => (∃ a cap, v = .slice a l.length cap ∧ l.length ≤ cap ∧ (cap ≤ maxLen ∧ (a = none → cap = 0)) ∧ (l ≠ [] → ∃ b off, a = some ⟨b, off, none⟩ ∧ ∀ j x, l[j]? = some x → h b (off + j) = some (.int .u32 (x : Nat)))) ∧ Lm l,
  fun _ _ _ hl ⟨⟨a, cap, h1, h2, h3, h4⟩, h5⟩ => ⟨⟨a, cap, h1, h2, h3, fun hn => let ⟨b, off, e, hc⟩ := h4 hn; ⟨b, off, e, fun j x hx => hl _ _ _ (hc j x hx)⟩⟩, h5⟩⟩
instance (l : List Nat) : C1 (mag l) := ⟨fun _ _ ⟨⟨_, _, h, _⟩, _⟩ => by rw [h]; rfl⟩
instance (l : List Nat) : CLen (mag l) l.length := ⟨fun _ _ ⟨⟨a, cap, h, _⟩, _⟩ => ⟨a, cap, h⟩⟩
theorem mag_nil : PLe (ex (.slice none 0 0)) (mag []) := fun _ _ h => ⟨⟨none, 0, h, Nat.le_refl _, ⟨by unfold maxLen; omega, fun _ => rfl⟩, fun h => absurd rfl h⟩, Lm.nil⟩
theorem all2_len1 {h : GH} {x : Nat} {vs : List Value} (ha : All2 h [lb x] vs) : vs = [.int .u32 (x : Int)] := by
  cases vs with
  | nil => exact ha.elim
  | cons v vs => cases vs with
    | nil => have : v = _ := ha.1; rw [this]
    | cons => exact ha.2.2.elim
section
variable {P : Program} {En : Ev} {n : Nat} {sl : Sl} {bx : Bx} {dst : Option Tmp} {ty : TypeId} {pos : String} {after : Array Edge} {guard : Option (Nat × Bool)}
theorem run_index {T E : TypeId} {k : Nat} (hT : CElem P T E k) (b o len cap : Nat) (kk : IntKind) {i : Nat} (hi : i < len) (w : World) : (Instr.indexAt T (.slice (some ⟨b, o, none⟩) len cap) (.int kk (i : Int))).run P w = .ok (.pointer (some ⟨b, o + i * k, none⟩)) w := by
  obtain ⟨h1, h2⟩ := hT.ok
  obtain ⟨inf, h3, h4⟩ := Option.map_eq_some_iff.1 h2
  have h5 : (0 : Int) ≤ (i : Int) ∧ (i : Int) < (len : Int) := by omega
  simp only [Instr.indexAt, asIntOf, Sem.run_bind, Sem.run_pure, Result.andThen_ok, run_underlying h1, if_pos h5, sizeOf, run_typeInfo _ h3, h4]
  rw [Addr.add_mid, Int.toNat_natCast]
theorem rc_index {T E : TypeId} {x ix : Operand} {l : List Nat} {kk : IntKind} {i y : Nat} [hT : CElem P T E 1] (hx : osd sl x = some (.one (mag l))) (hi : osd sl ix = some (.one (ex (.int kk (i : Int))))) (hy : l[i]? = some y) :
    RT P En n ⟨dst, .indexAddr T x ix, ty, pos, after, guard⟩ sl bx ⟨.one (cpR [lb y]), [], []⟩ :=
  RT.pure fun ρ h β bx' H => by
    obtain ⟨⟨a, cap, h1, h2, h3, h4⟩, h5⟩ : (mag l).p h (ρ x) := (H x (by simp [Op.operands]) _ hx).1
    have h6 : ρ ix = .int kk (i : Int) := (H ix (by simp [Op.operands]) _ hi).1
    have hlt := (List.getElem?_eq_some_iff.1 hy).1
    obtain ⟨b, off, rfl, hc⟩ := h4 (by rintro rfl; simp at hlt)
    refine ⟨.pointer (some ⟨b, off + i * 1, none⟩), fun w _ => ?_, ⟨b, off + i * 1, [.int .u32 (y : Int)], rfl, ⟨rfl, rfl, trivial⟩, fun j u hu => ?_⟩, trivial⟩
    · simp only [execOp, h1, h6, Sem.run_bind, run_index hT b off l.length cap kk hlt w, Result.andThen_ok, Sem.run_pure]
    · cases j with
      | zero => simp at hu; rw [← hu, Nat.mul_one]; exact hc i y hy
      | succ j => simp at hu
theorem rc_load1 {T : TypeId} {x : Operand} {ps : List Pd} {p : Pd} [ht : COne P T] (hx : osd sl x = some (.one (cpR ps))) (hp : ps[0]? = some p) : RT P En n ⟨dst, .load T x, ty, pos, after, guard⟩ sl bx ⟨.one p, [], []⟩ :=
  RT.pure fun ρ h β bx' H => by
    obtain ⟨b, o, vs, h1, h2, h3⟩ : (cpR ps).p h (ρ x) := (H x (by simp [Op.operands]) _ hx).1
    obtain ⟨v, hv, hpv, _⟩ := h2.get hp
    obtain ⟨d, hd1, hd2, _⟩ := ht.ok
    refine ⟨v, fun w hh => ?_, hpv, trivial⟩
    have hc : w.cell? ⟨b, o, none⟩ = some v := hh _ _ _ (by simpa using h3 0 v hv)
    simp only [execOp, h1, Instr.loadAt, Instr.sureAddr, loadVar, Sem.run_bind, Sem.run_pure, Result.andThen_ok, run_isAgg hd1, hd2]
    simp [load, Sem.run, hc]
theorem rc_loadR {T : TypeId} {x : Operand} {k : Nat} {ps : List Pd} [ht : CRow P T k] (hx : osd sl x = some (.one (cpR ps))) (hk : Nat.ble k ps.length = true) {qs : List Pd} (hq : ps.take k = qs) : RT P En n ⟨dst, .load T x, ty, pos, after, guard⟩ sl bx ⟨.one (aggP qs), [], []⟩ :=
  RT.pure fun ρ h β bx' H => by
    subst hq
    obtain ⟨b, o, vs, h1, h2, h3⟩ : (cpR ps).p h (ρ x) := (H x (by simp [Op.operands]) _ hx).1
    obtain ⟨d, hd1, hd2, hd3⟩ := ht.ok
    have hk := Nat.le_of_ble_eq_true hk
    have hl := h2.length
    have hlt : (vs.take k).length = k := by simp; omega
    refine ⟨.agg (vs.take k).toArray, fun w hh => ?_, ⟨_, rfl, h2.take k⟩, trivial⟩
    have hr : w.rangeAt b o (vs.take k) := fun j v hv => by
      rw [List.getElem?_take] at hv
      split at hv
      · exact hh _ _ _ (h3 j v hv)
      · cases hv
    simp only [execOp, h1, Sem.run_bind, run_loadAt_mid w b o T (vs.take k) d hr hd1 hd2 (by rw [hlt]; exact hd3), Result.andThen_ok, Sem.run_pure]
theorem rc_fieldAddr {S : TypeId} {x : Operand} {f off : Nat} {ps : List Pd} [hf : CField P S f off] (hx : osd sl x = some (.one (cpR ps))) {qs : List Pd} (hq : ps.drop off = qs) : RT P En n ⟨dst, .fieldAddr S x f, ty, pos, after, guard⟩ sl bx ⟨.one (cpR qs), [], []⟩ :=
  RT.pure fun ρ h β bx' H => by
    subst hq
    obtain ⟨b, o, vs, h1, h2, h3⟩ : (cpR ps).p h (ρ x) := (H x (by simp [Op.operands]) _ hx).1
    obtain ⟨fs, fd, e1, e2, e3, e45⟩ := hf.ok
    obtain ⟨i, e4, e5'⟩ := Option.map_eq_some_iff.1 e45
    have e5 : i.size ≠ 0 := by intro h0; rw [h0] at e5'; cases e5'
    refine ⟨.pointer (some ⟨b, o + off, none⟩), fun w _ => ?_, ⟨b, o + off, vs.drop off, rfl, h2.drop off, fun j u hu => ?_⟩, trivial⟩
    · simp only [execOp, h1, Instr.fieldAt, Instr.sureAddr, Sem.run_bind, run_underlying e1, Result.andThen_ok, e2, Sem.run_pure, fieldPlace, sizeOf, run_typeInfo _ e4, if_neg e5]
      rw [Addr.add_mid, e3]
    · rw [Nat.add_assoc]; exact h3 (off + j) u (by simpa using hu)
theorem run_sl {T E : TypeId} {k : Nat} (hT : CElem P T E k) (a : Option Addr) (len cap : Nat) (lo hi : Option Value) (l h : Nat) (w : World) (hb : (Instr.sliceBounds true len cap lo hi none).run P w = .ok (l, h, cap) w) :
    (Instr.sliceAt T (.slice a len cap) lo hi none).run P w = .ok (.slice (if cap = l then a else a.map (·.add (l * k))) (h - l) (cap - l)) w := by
  obtain ⟨h1, h2⟩ := hT.ok
  obtain ⟨inf, h3, h4⟩ := Option.map_eq_some_iff.1 h2
  simp only [Instr.sliceAt, Instr.slice, Sem.run_bind, run_underlying h1, Result.andThen_ok, hb, sizeOf, run_typeInfo _ h3, Sem.run_pure, h4]
theorem run_bh (len cap : Nat) (kk : IntKind) {j : Nat} (hj : j ≤ cap) (w : World) : (Instr.sliceBounds true len cap none (some (.int kk (j : Int))) none).run P w = .ok (0, j, cap) w := by
  simp [Instr.sliceBounds, Instr.sliceBound, asIntOf, hj]
theorem run_bl (len cap : Nat) (kk : IntKind) {j : Nat} (hj : j ≤ len) (w : World) : (Instr.sliceBounds true len cap (some (.int kk (j : Int))) none none).run P w = .ok (j, len, cap) w := by
  simp [Instr.sliceBounds, Instr.sliceBound, asIntOf, hj]
theorem run_blh (len cap : Nat) (kk kk' : IntKind) {j i : Nat} (hi : i ≤ j) (hj : j ≤ cap) (w : World) : (Instr.sliceBounds true len cap (some (.int kk (i : Int))) (some (.int kk' (j : Int))) none).run P w = .ok (i, j, cap) w := by
  simp [Instr.sliceBounds, Instr.sliceBound, asIntOf, hj, hi]
theorem rc_sliceH {T E : TypeId} {x ix : Operand} {l : List Nat} {kk : IntKind} {j : Nat} [hT : CElem P T E 1] (hx : osd sl x = some (.one (mag l))) (hi : osd sl ix = some (.one (ex (.int kk (j : Int))))) (hj : j ≤ l.length) :
    RT P En n ⟨dst, .slice T x none (some ix) none, ty, pos, after, guard⟩ sl bx ⟨.one (mag (l.take j)), [], []⟩ :=
  RT.pure fun ρ h β bx' H => by
    obtain ⟨⟨a, cap, h1, h2, h3, h4⟩, h5⟩ : (mag l).p h (ρ x) := (H x (by simp [Op.operands]) _ hx).1
    have h6 : ρ ix = .int kk (j : Int) := (H ix (by simp [Op.operands]) _ hi).1
    have hlen : (l.take j).length = j := by simp; omega
    refine ⟨.slice a j cap, fun w _ => ?_, ⟨⟨a, cap, by rw [hlen], by rw [hlen]; omega, h3, fun hl => ?_⟩, h5.take j⟩, trivial⟩
    · simp only [execOp, Option.map_none, Option.map_some, h1, h6, Sem.run_bind, run_sl hT a l.length cap none (some (.int kk (j : Int))) 0 j w (run_bh _ _ _ (by omega) w), Result.andThen_ok, Sem.run_pure]
      have : (if cap = 0 then a else a.map (·.add (0 * 1))) = a := by
        split
        · rfl
        · cases a with
          | none => rfl
          | some ad => simp [Addr.add]
      rw [this]; rfl
    · obtain ⟨b, off, e, hc⟩ := h4 (by rintro rfl; simp at hl)
      refine ⟨b, off, e, fun i x hx => hc i x ?_⟩
      rw [List.getElem?_take] at hx
      split at hx
      · exact hx
      · cases hx
/-- The call's own slices. -/
theorem ru_index {T E : TypeId} {x ix : Operand} {b o len cap : Nat} {kk : IntKind} {i : Nat} [hT : CElem P T E 1] (hx : osd sl x = some (.own b o len cap)) (hi : osd sl ix = some (.one (ex (.int kk (i : Int))))) (hy : i < len) :
    RT P En n ⟨dst, .indexAddr T x ix, ty, pos, after, guard⟩ sl bx ⟨.ptr b (o + i), [], []⟩ :=
  RT.pure fun ρ h β bx' H => by
    obtain ⟨h1, hl⟩ := H x (by simp [Op.operands]) _ hx
    obtain ⟨cap', h1, hcc, hcm⟩ : ∃ cap', ρ x = .slice (some ⟨β b, o, none⟩) len cap' ∧ cap ≤ cap' ∧ cap' ≤ maxLen := h1
    have h6 : ρ ix = .int kk (i : Int) := (H ix (by simp [Op.operands]) _ hi).1
    refine ⟨.pointer (some ⟨β b, o + i * 1, none⟩), fun w _ => ?_, by rw [Nat.mul_one]; rfl, hl⟩
    simp only [execOp, h1, h6, Sem.run_bind, run_index hT (β b) o len cap' kk hy w, Result.andThen_ok, Sem.run_pure]
theorem ru_index0 {T E : TypeId} {x ix : Operand} {b len cap : Nat} {kk : IntKind} {i : Nat} [CElem P T E 1] (hx : osd sl x = some (.own b 0 len cap)) (hi : osd sl ix = some (.one (ex (.int kk (i : Int))))) (hy : i < len) :
    RT P En n ⟨dst, .indexAddr T x ix, ty, pos, after, guard⟩ sl bx ⟨.ptr b i, [], []⟩ := by
  have := ru_index (T := T) (P := P) (En := En) (n := n) (sl := sl) (bx := bx) (dst := dst) (ty := ty) (pos := pos) (after := after) (guard := guard) hx hi hy
  rwa [Nat.zero_add] at this
theorem ru_set1 {T : TypeId} {x y : Operand} {b o : Nat} {ps : List Pd} {q : Pd} [COne P T] [C1 q] (hx : osd sl x = some (.ptr b o)) (hy : osd sl y = some (.one q)) (hb : look bx b = some ps) (hk : o < ps.length) {rs : List Pd} (hr : ps.set o q = rs) :
    RT P En n ⟨dst, .store T x y, ty, pos, after, guard⟩ sl bx ⟨.one (ex undef), [b], [(b, rs)]⟩ := by
  subst hr
  exact rt_store1 o hx hy hb COne.ok (by rw [Nat.blt, Nat.ble_eq]; exact hk)
theorem ru_lenO {x : Operand} {T E : TypeId} {b o len cap : Nat} (hx : osd sl x = some (.own b o len cap)) (ht : P.underlying T = some (.slice E)) : RT P En n ⟨dst, .call ⟨.builtin .len, #[x], #[T]⟩, ty, pos, after, guard⟩ sl bx ⟨.one (ex (.int .i64 (len : Nat))), [], []⟩ :=
  RT.pure fun ρ h β bx' H => by
    obtain ⟨cap', hv, _, _⟩ : ∃ cap', ρ x = .slice (some ⟨β b, o, none⟩) len cap' ∧ cap ≤ cap' ∧ cap' ≤ maxLen := (H x (by simp [Op.operands, Call.operands]) _ hx).1
    refine ⟨.int .i64 (len : Nat), fun w _ => ?_, rfl, trivial⟩
    simp [execOp, resolve, invoke, builtin, Builtin.len_, hv, run_underlying ht, goInt]
theorem ru_sliceLH {T E : TypeId} {x lx hx : Operand} {b o len cap : Nat} {kk kk' : IntKind} {i j : Nat} [hT : CElem P T E 1] (h1 : osd sl x = some (.own b o len cap)) (h2 : osd sl lx = some (.one (ex (.int kk (i : Int))))) (h3 : osd sl hx = some (.one (ex (.int kk' (j : Int))))) (hij : i ≤ j) (hj : j ≤ cap) (hc : i < cap) :
    RT P En n ⟨dst, .slice T x (some lx) (some hx) none, ty, pos, after, guard⟩ sl bx ⟨.own b (o + i) (j - i) (cap - i), [], []⟩ :=
  RT.pure fun ρ h β bx' H => by
    obtain ⟨e1, hl⟩ := H x (by simp [Op.operands]) _ h1
    obtain ⟨cap', e1, hcc, hcm⟩ : ∃ cap', ρ x = .slice (some ⟨β b, o, none⟩) len cap' ∧ cap ≤ cap' ∧ cap' ≤ maxLen := e1
    have e2 : ρ lx = .int kk (i : Int) := (H lx (by simp [Op.operands]) _ h2).1
    have e3 : ρ hx = .int kk' (j : Int) := (H hx (by simp [Op.operands]) _ h3).1
    refine ⟨.slice (some ⟨β b, o + i, none⟩) (j - i) (cap' - i), fun w _ => ?_, ⟨cap' - i, rfl, by omega, by omega⟩, hl⟩
    simp only [execOp, Option.map_none, Option.map_some, e1, e2, e3, Sem.run_bind, run_sl hT _ len cap' _ _ i j w (run_blh _ _ _ _ hij (by omega) w), Result.andThen_ok, Sem.run_pure, if_neg (show ¬ cap' = i by omega)]
    rw [Addr.add_mid, Nat.mul_one]
theorem ru_sliceH {T E : TypeId} {x hx : Operand} {b o len cap : Nat} {kk' : IntKind} {j : Nat} [hT : CElem P T E 1] (h1 : osd sl x = some (.own b o len cap)) (h3 : osd sl hx = some (.one (ex (.int kk' (j : Int))))) (hj : j ≤ cap) :
    RT P En n ⟨dst, .slice T x none (some hx) none, ty, pos, after, guard⟩ sl bx ⟨.own b o j cap, [], []⟩ :=
  RT.pure fun ρ h β bx' H => by
    obtain ⟨e1, hl⟩ := H x (by simp [Op.operands]) _ h1
    obtain ⟨cap', e1, hcc, hcm⟩ : ∃ cap', ρ x = .slice (some ⟨β b, o, none⟩) len cap' ∧ cap ≤ cap' ∧ cap' ≤ maxLen := e1
    have e3 : ρ hx = .int kk' (j : Int) := (H hx (by simp [Op.operands]) _ h3).1
    refine ⟨.slice (some ⟨β b, o, none⟩) j cap', fun w _ => ?_, ⟨cap', rfl, hcc, hcm⟩, hl⟩
    simp only [execOp, Option.map_none, Option.map_some, e1, e3, Sem.run_bind, run_sl hT _ len cap' _ _ 0 j w (run_bh _ _ _ (by omega) w), Result.andThen_ok, Sem.run_pure]
    rw [Addr.add_mid]
    simp
end
end Go.Proofs.YtnhbdldchoepfaaDoor

/- New slices; a box that is written no more; calls that write boxes. For any program. -/
import Derived.Test.YtnhbdldchoepfaaDoorMg
import Derived.Laws.MakeOwn
namespace Go.Proofs.YtnhbdldchoepfaaDoor
open Go.RowKit Limb
/-- An element type: its zero, one cell. -/
class CZero1 (P : Program) (E : TypeId) (z : outParam Value) (bytes : outParam Nat) : Prop where
  ok : (P.info? E).map (fun i => (i.zero, i.size, i.bytes)) = some (some z, 1, bytes) ∧ z.oneCell' = true
section
variable {P : Program} {En : Ev} {n : Nat} {sl : Sl} {bx : Bx} {dst : Option Tmp} {ty : TypeId} {pos : String} {after : Array Edge} {guard : Option (Nat × Bool)}
theorem made_one (z : Value) (hz : z.oneCell' = true) (m : Nat) : madeCells z.cells m = (List.replicate m z).toArray := by
  rw [oneCell_cells hz]
  apply Array.ext
  · simp [madeCells]
  · intro i h1 h2
    simp [madeCells, Nat.mod_one]
theorem all2_rep {h : GH} {z : Value} (hz : z.oneCell' = true) : ∀ m, All2 h (List.replicate m (ex z)) (List.replicate m z)
  | 0 => trivial
  | m + 1 => ⟨rfl, hz, all2_rep hz m⟩
theorem ru_make {T E : TypeId} {x y : Operand} {kl kc : IntKind} {d m bytes : Nat} {z : Value} [hT : CElem P T E 1] [hz : CZero1 P E z bytes] (hx : osd sl x = some (.one (ex (.int kl (m : Int))))) (hy : osd sl y = some (.one (ex (.int kc (m : Int))))) (hd : Nat.blt d 1000 = true) (hn : look bx d = none) (hb : bytes * m ≤ 281474976710656) (hm : m ≤ 9223372036854775807) :
    RT P En n ⟨some d, .makeSlice T x y, ty, pos, after, guard⟩ sl bx ⟨.own d 0 m m, [], [(d, List.replicate m (ex z))]⟩ := by
  intro sl' bx' h1 _ h3 w0 h0 c h β a w Q hi hs
  have hd : d < 1000 := Nat.le_of_ble_eq_true hd
  have hn' : look bx' d = none := by rw [h3 d (by simp)]; exact hn
  have e1 : a.eval x = .int kl (m : Int) := (osd_ok hs (x := x) (sd := .one (ex (.int kl (m : Int)))) (by rw [h1 x (by simp [Op.operands])]; exact hx)).1
  have e2 : a.eval y = .int kc (m : Int) := (osd_ok hs (x := y) (sd := .one (ex (.int kc (m : Int)))) (by rw [h1 y (by simp [Op.operands])]; exact hy)).1
  obtain ⟨hz1, hz2⟩ := hz.ok
  obtain ⟨inf, q1, q2⟩ := Option.map_eq_some_iff.1 hz1
  simp only [Prod.mk.injEq] at q2
  obtain ⟨q3, q4, q5⟩ := q2
  have h8 : ((bytes * m : Nat) : Int) ≤ 281474976710656 := by omega
  rw [Int.natCast_mul] at h8
  have hr := run_make (P := P) w T E inf z hT.ok.1 q1 q3 kl kc m m (by omega) (Int.le_refl _) (by rw [q5]; exact h8) (by omega)
  rw [q4, Int.toNat_natCast, Nat.mul_one, made_one z hz2] at hr
  unfold Oper.wp
  have hrun : (execOp a.eval ⟨some d, .makeSlice T x y, ty, pos, after, guard⟩).run P w = .ok (.value (.slice (some ⟨w.heap.size, 0, none⟩) m m)) (w.alloc (.cells (List.replicate m z).toArray E)) := by
    simp only [execOp, e1, e2, Sem.run_bind, hr, Result.andThen_ok, Sem.run_pure]
  rw [hrun]
  refine ⟨_, h, upd β d w.heap.size, rfl, hi.alloc d hd (all2_rep hz2 m) E, Le.refl _, fun j hj => ?_, ?_, ?_⟩
  · exact upd_old (by rintro rfl; exact hj hn')
  · exact ⟨m, by rw [upd_new], Nat.le_refl _, by unfold maxLen; omega⟩
  · show look ((d, _) :: bx') d ≠ none; rw [look_cons, if_pos rfl]; simp
end
/-- A block whose cells stay as they are from now on. -/
def addB (h : GH) (B : Nat) (vs : List Value) : GH := fun b o => if b = B then vs[o]? else h b o
theorem addB_new {h : GH} {B o : Nat} {vs : List Value} : addB h B vs B o = vs[o]? := by unfold addB; rw [if_pos rfl]
theorem addB_old {h : GH} {B b o : Nat} {vs : List Value} (hb : b ≠ B) : addB h B vs b o = h b o := by unfold addB; rw [if_neg hb]
theorem addB_le {h : GH} {B : Nat} {vs : List Value} (hn : ∀ o, h B o = none) : Le h (addB h B vs) := fun b o v e => by
  have : b ≠ B := by rintro rfl; rw [hn o] at e; cases e
  rw [addB_old this]; exact e
theorem Inv.allocC {En : Ev} {w0 : World} {h0 : GH} {c : Cx} {h : GH} {β : Nat → Nat} {bx : Bx} {w : World} (hi : Inv En w0 h0 c h β bx w) (vs : List Value) (T : TypeId) :
    Inv En w0 h0 c (addB h w.heap.size vs) β bx (w.alloc (.cells vs.toArray T)) ∧ Le h (addB h w.heap.size vs) := by
  have hn : ∀ o, h w.heap.size o = none := fun o => by
    cases hh : h w.heap.size o with
    | none => rfl
    | some v => exact absurd (hi.holds.lt hh) (Nat.lt_irrefl _)
  have hle := addB_le (vs := vs) hn
  refine ⟨⟨hi.env, fun b o v e => ?_, hi.le0.trans hle, fun b o v e e0 => ?_, hi.below.below ((Below.refl _ _).alloc (Nat.le_refl _) _), hi.dis, hi.pin, fun i ps hp => ?_, hi.inj⟩, hle⟩
  · by_cases hb : b = w.heap.size
    · subst hb
      rw [addB_new] at e
      rw [cell_of_row _ _ o _ T _ (heap_alloc_new w _)]
      simpa using e
    · rw [addB_old hb] at e
      rw [World.cell?_of_block (w := w) (a := ⟨b, o, none⟩) (Below.heap_alloc w _ b (hi.holds.lt e))]
      exact hi.holds b o v e
  · by_cases hb : b = w.heap.size
    · subst hb; exact hi.below.size
    · rw [addB_old hb] at e; exact hi.fresh b o v e e0
  · obtain ⟨g1, g2, us, rs, T', g3, g4⟩ := hi.box i ps hp
    have hne : β i ≠ w.heap.size := by have := block_lt g3; omega
    exact ⟨g1, fun o => by rw [addB_old hne]; exact g2 o, us, rs, T', by rw [Below.heap_alloc w _ _ (block_lt g3)]; exact g3, g4.mono hle⟩
section
variable {P : Program} {En : Ev} {n : Nat} {sl : Sl} {bx : Bx} {dst : Option Tmp} {ty : TypeId} {pos : String} {after : Array Edge} {guard : Option (Nat × Bool)}
/-- Limbs, one an operand. -/
def limbsOf (sl : Sl) : List (Nat × Operand) → Nat → List Nat → Prop
  | [], _, [] => True
  | x :: xs, k, y :: ys => x.1 = k ∧ osd sl x.2 = some (.one (lb y)) ∧ limbsOf sl xs (k + 1) ys
  | _, _, _ => False
theorem limbs_fill {ρ : Operand → Value} {h : GH} {β : Nat → Nat} {bx' : Bx} : ∀ {xs : List (Nat × Operand)} {k : Nat} {ys : List Nat} {pre : List Value} {rest : List Value}, limbsOf sl xs k ys → (∀ x ∈ xs, ∀ s, osd sl x.2 = some s → s.ok h β (ρ x.2) ∧ s.live bx') → pre.length = k → rest.length = ys.length →
    Instr.fill (fun i => some (i * 1, 1)) (pre ++ rest).toArray (xs.map fun x => (x.1, ρ x.2)) = some (pre ++ ys.map fun (y : Nat) => Value.int .u32 (y : Int)).toArray
  | [], _, [], pre, rest, _, _, _, hl => by have : rest = [] := List.length_eq_zero_iff.1 hl; subst this; simp [Instr.fill]
  | x :: xs, k, y :: ys, pre, rest, ⟨e1, e2, e3⟩, H, hp, hl => by
    have hv : ρ x.2 = .int .u32 (y : Int) := (H x (by simp) _ e2).1
    cases rest with
    | nil => simp at hl
    | cons r rest =>
      have hcells : (ρ x.2).cells = #[Value.int .u32 (y : Int)] := by rw [hv]; rfl
      subst e1
      simp only [List.map_cons, Instr.fill, hcells]
      rw [if_neg (by simp; omega)]
      have hset : (#[Value.int .u32 (y : Int)].zipIdx.foldl (fun cs x_1 => cs.setIfInBounds (x.1 * 1 + x_1.2) x_1.1) (pre ++ r :: rest).toArray) = ((pre ++ [Value.int .u32 (y : Int)]) ++ rest).toArray := by
        simp [← hp]
      rw [hset, limbs_fill e3 (fun z hz => H z (by simp [hz])) (by simp [hp]) (by simpa using hl)]
      simp
  | [], _, _ :: _, _, _, h, _, _, _ => h.elim
  | _ :: _, _, [], _, _, h, _, _, _ => h.elim
theorem rc_buildS {T E : TypeId} {xs : List (Nat × Operand)} {len bytes : Nat} {l : List Nat} [hT : CElem P T E 1] [hz : CZero1 P E (.int .u32 0) bytes] (hp : limbsOf sl xs 0 l) (hl : Nat.beq l.length len = true) (hm : Nat.ble len 1000 = true) (hpos : Nat.blt 0 len = true) (hlm : Lm l) :
    RT P En n ⟨dst, .buildSlice T len xs.toArray, ty, pos, after, guard⟩ sl bx ⟨.one (mag l), [], []⟩ := by
  intro sl' bx' h1 _ _ w0 h0 c h β a w Q hi hs
  have hl := Nat.eq_of_beq_eq_true hl
  subst hl
  have hm := Nat.le_of_ble_eq_true hm
  have hpos : 0 < l.length := Nat.le_of_ble_eq_true hpos
  obtain ⟨hz1, hz2⟩ := hz.ok
  obtain ⟨inf, q1, q2⟩ := Option.map_eq_some_iff.1 hz1
  simp only [Prod.mk.injEq] at q2
  obtain ⟨q3, q4, q5⟩ := q2
  have hfill := limbs_fill (ρ := a.eval) (h := h) (β := β) (bx' := bx') (pre := []) (rest := List.replicate l.length (.int .u32 0)) hp (fun x hx s hxs => osd_ok hs (by rw [h1 x.2 (by simp [Op.operands]; exact ⟨x.1, hx⟩)]; exact hxs)) rfl (by simp)
  simp only [List.nil_append] at hfill
  obtain ⟨hinv, hle⟩ := hi.allocC (l.map fun (y : Nat) => Value.int .u32 (y : Int)) E
  have hrun : (execOp a.eval ⟨dst, .buildSlice T l.length xs.toArray, ty, pos, after, guard⟩).run P w = .ok (.value (.slice (some ⟨w.heap.size, 0, none⟩) l.length l.length)) (w.alloc (.cells (l.map fun (y : Nat) => Value.int .u32 (y : Int)).toArray E)) := by
    have hmap : (xs.toArray.map fun x => (x.1, a.eval x.2)).toList = xs.map fun x => (x.1, a.eval x.2) := by simp
    have hmade : ∀ k, (Array.range k).map ((#[Value.int .u32 0] : Array Value)[· % (#[Value.int .u32 0] : Array Value).size]!) = (List.replicate k (.int .u32 0)).toArray := fun k => by
      have := made_one (.int .u32 0) rfl k
      exact this
    have hlim : ¬ (l.length * 1 > 2 ^ 24) := by omega
    have h0 : ¬ l.length * 1 = 0 := by omega
    simp only [execOp, Instr.buildSlice, Sem.run_bind, run_underlying hT.ok.1, Result.andThen_ok, sizeOf, run_typeInfo _ q1, q4, if_neg hlim, if_neg h0, Sem.run_pure, zeroValue, q3, Value.cells]
    rw [hmap, Nat.mul_one, hmade, hfill]
    rfl
  unfold Oper.wp
  rw [hrun]
  refine ⟨_, _, β, rfl, hinv, hle, fun _ _ => rfl, ⟨⟨some ⟨w.heap.size, 0, none⟩, l.length, rfl, Nat.le_refl _, ⟨by unfold maxLen; omega, fun h => by cases h⟩, fun _ => ⟨w.heap.size, 0, rfl, fun j x hx => ?_⟩⟩, hlm⟩, trivial⟩
  rw [Nat.zero_add, addB_new]
  simp [hx]
end
end Go.Proofs.YtnhbdldchoepfaaDoor

/- slices.Clone's parts: an empty slice, append to it, comparing with nil; a new box handed back as a constant. For any program. -/
import Derived.Test.YtnhbdldchoepfaaDoorMp
import Derived.ArgAppend
import Derived.Laws.Cover3
namespace Go.Proofs.YtnhbdldchoepfaaDoor
open Go.RowKit Limb
/-- An empty slice that is not nil. -/
def empS : Pd := ⟨fun _ v => ∃ a, v = .slice (some a) 0 0, fun _ _ _ _ h => h⟩
/-- Limbs, not nil. -/
def magS (l : List Nat) : Pd := ⟨fun h v => (mag l).p h v ∧ ∃ a n c, v = .slice (some a) n c, fun _ _ _ hl ⟨h1, h2⟩ => ⟨(mag l).mono _ _ _ hl h1, h2⟩⟩
theorem magS_mag (l : List Nat) : PLe (magS l) (mag l) := fun _ _ h => h.1
theorem mag_magS {l : List Nat} (hl : l ≠ []) : PLe (mag l) (magS l) := fun h v hm => ⟨hm, by
  obtain ⟨⟨a, cap, h1, _, _, h4⟩, _⟩ := hm
  obtain ⟨b, off, rfl, _⟩ := h4 hl
  exact ⟨_, _, _, h1⟩⟩
theorem all2_limbs {h : GH} : ∀ l : List Nat, All2 h (l.map lb) (l.map fun (y : Nat) => Value.int .u32 (y : Int))
  | [] => trivial
  | _ :: l => ⟨rfl, rfl, all2_limbs l⟩
theorem Fn.nil_or {P : Program} {En : Ev} {f : FuncId} {r : Pd} (h1 : Fn P En f [ex (.slice none 0 0)] r) (h2 : Fn P En f [magS []] r) : Fn P En f [mag []] r := by
  intro h w vs he hh ha
  obtain ⟨v, rfl, hv⟩ := ha.one
  obtain ⟨⟨a, cap, e, q1, ⟨q2, q3⟩, q4⟩, q5⟩ := id hv
  cases a with
  | none =>
    have := q3 rfl
    subst this
    exact h1 h w [v] he hh ⟨e, trivial⟩
  | some ad => exact h2 h w [v] he hh ⟨⟨hv, _, _, _, e⟩, trivial⟩
section
variable {P : Program} {En : Ev} {n : Nat} {sl : Sl} {bx : Bx} {dst : Option Tmp} {ty : TypeId} {pos : String} {after : Array Edge} {guard : Option (Nat × Bool)}
theorem rc_empty {T E : TypeId} {k : Nat} [hT : CElem P T E k] : RT P En n ⟨dst, .buildSlice T 0 #[], ty, pos, after, guard⟩ sl bx ⟨.one empS, [], []⟩ := by
  intro sl' bx' h1 _ _ w0 h0 c h β a w Q hi hs
  obtain ⟨e1, e2⟩ := hT.ok
  obtain ⟨inf, e3, e4⟩ := Option.map_eq_some_iff.1 e2
  have hrun : (execOp a.eval ⟨dst, .buildSlice T 0 #[], ty, pos, after, guard⟩).run P w = .ok (.value (.slice (some ⟨w.heap.size, 0, none⟩) 0 0)) (w.alloc (.cells #[] E)) := by
    simp [execOp, Instr.buildSlice, run_underlying e1, sizeOf, run_typeInfo _ e3, Instr.fill, newRow, Array.range_zero']
  unfold Oper.wp
  rw [hrun]
  have hb : Below w.heap.size w (w.alloc (.cells #[] E)) := (Below.refl _ _).alloc (Nat.le_refl _) _
  refine ⟨_, h, β, rfl, hi.call (Le.refl _) (fun b o v e => ?_) (fun b o v e e0 => by rw [e] at e0; cases e0) hb, Le.refl _, fun _ _ => rfl, ⟨_, rfl⟩, trivial⟩
  rw [World.cell?_of_block (w := w) (a := ⟨b, o, none⟩) (Below.heap_alloc w _ b (hi.holds.lt e))]
  exact hi.holds b o v e
theorem rc_nilT {T E : TypeId} {x : Operand} {T' : TypeId} [hT : CSlice P T E] (hx : osd sl x = some (.one (ex (.slice none 0 0)))) : RT P En n ⟨dst, .binOp .eql T x (.const (.slice none 0 0)) T', ty, pos, after, guard⟩ sl bx ⟨.one (ex (.bool true)), [], []⟩ :=
  RT.pure fun ρ h β bx' H => by
    have hv : ρ x = .slice none 0 0 := (H x (by simp [Op.operands]) _ hx).1
    have hc : ρ (.const (.slice none 0 0)) = .slice none 0 0 := (H (.const (.slice none 0 0)) (by simp [Op.operands]) _ rfl).1
    refine ⟨.bool true, fun w _ => ?_, rfl, trivial⟩
    have := run_equal_slice_nil (P := P) w T E none 0 0 hT.ok
    simp [execOp, eqGuard, Go.binOp, hv, hc, this]
theorem rc_nilF {T E : TypeId} {x : Operand} {T' : TypeId} {l : List Nat} [hT : CSlice P T E] (hx : osd sl x = some (.one (magS l))) : RT P En n ⟨dst, .binOp .eql T x (.const (.slice none 0 0)) T', ty, pos, after, guard⟩ sl bx ⟨.one (ex (.bool false)), [], []⟩ :=
  RT.pure fun ρ h β bx' H => by
    obtain ⟨_, a, k, c, hv⟩ : (magS l).p h (ρ x) := (H x (by simp [Op.operands]) _ hx).1
    have hc : ρ (.const (.slice none 0 0)) = .slice none 0 0 := (H (.const (.slice none 0 0)) (by simp [Op.operands]) _ rfl).1
    refine ⟨.bool false, fun w _ => ?_, rfl, trivial⟩
    have := run_equal_slice_nil (P := P) w T E (some a) k c hT.ok
    simp [execOp, eqGuard, Go.binOp, hv, hc, this]
theorem rc_nilM {T E : TypeId} {x : Operand} {T' : TypeId} {l : List Nat} [hT : CSlice P T E] (hl : l ≠ []) (hx : osd sl x = some (.one (mag l))) : RT P En n ⟨dst, .binOp .eql T x (.const (.slice none 0 0)) T', ty, pos, after, guard⟩ sl bx ⟨.one (ex (.bool false)), [], []⟩ :=
  RT.pure fun ρ h β bx' H => by
    obtain ⟨_, a, k, c, hv⟩ : (magS l).p h (ρ x) := mag_magS hl _ _ (H x (by simp [Op.operands]) _ hx).1
    have hc : ρ (.const (.slice none 0 0)) = .slice none 0 0 := (H (.const (.slice none 0 0)) (by simp [Op.operands]) _ rfl).1
    refine ⟨.bool false, fun w _ => ?_, rfl, trivial⟩
    have := run_equal_slice_nil (P := P) w T E (some a) k c hT.ok
    simp [execOp, eqGuard, Go.binOp, hv, hc, this]
theorem rt_idx {T : TypeId} {x ix : Operand} {vx vi v : Value} (hx : osd sl x = some (.one (ex vx))) (hi : osd sl ix = some (.one (ex vi))) (hr : ∀ w, (Instr.index T vx vi).run P w = .ok v w) : RT P En n ⟨dst, .index T x ix, ty, pos, after, guard⟩ sl bx ⟨.one (ex v), [], []⟩ :=
  RT.pure fun ρ _ _ _ H => by
    have h1 : ρ x = vx := (H x (by simp [Op.operands]) _ hx).1
    have h2 : ρ ix = vi := (H ix (by simp [Op.operands]) _ hi).1
    refine ⟨v, fun w _ => ?_, rfl, trivial⟩
    simp only [execOp, h1, h2]
    rw [Sem.run_bind, hr w]
    rfl
theorem execOp_append (a : Act) (s x : Operand) (T : TypeId) (w : World) {v : Value} {w' : World} (h : (Builtin.append_ #[T, T] ty #[a.eval s, a.eval x]).run P w = .ok v w') : (execOp a.eval ⟨dst, .call ⟨.builtin .append, #[s, x], #[T, T]⟩, ty, pos, after, guard⟩).run P w = .ok (.value v) w' := by
  simp only [execOp, resolve, invoke, builtin, Sem.run_bind, Sem.run_pure, Result.andThen_ok, List.map_toArray, List.map_cons, List.map_nil, h]
theorem rc_append0 {T E : TypeId} {s x : Operand} {bytes : Nat} {z : Value} [hT : CElem P T E 1] [hz : CZero1 P E z bytes] (h1 : osd sl s = some (.one empS)) (h2 : osd sl x = some (.one (magS []))) :
    RT P En n ⟨dst, .call ⟨.builtin .append, #[s, x], #[T, T]⟩, ty, pos, after, guard⟩ sl bx ⟨.one (mag []), [], []⟩ := by
  intro sl' bx' g1 _ _ w0 h0 c h β a w Q hi hs
  obtain ⟨b, hb⟩ : empS.p h (a.eval s) := (osd_ok hs (x := s) (sd := .one empS) (by rw [g1 s (by simp [Op.operands, Call.operands])]; exact h1)).1
  obtain ⟨hm, ad, k, cp, hx⟩ : (magS []).p h (a.eval x) := (osd_ok hs (x := x) (sd := .one (magS [])) (by rw [g1 x (by simp [Op.operands, Call.operands])]; exact h2)).1
  obtain ⟨⟨a', cap', e, _⟩, _⟩ := hm
  rw [hx] at e
  injection e with e1 e2 e3
  obtain ⟨hz1, hz2⟩ := hz.ok
  obtain ⟨inf, q1, q2⟩ := Option.map_eq_some_iff.1 hz1
  simp only [Prod.mk.injEq] at q2
  obtain ⟨q3, q4, q5⟩ := q2
  have hr : (Builtin.append_ #[T, T] ty #[.slice (some b) 0 0, .slice (some ad) 0 cp]).run P w = .ok (.slice (some b) 0 0) w := by
    have hfc := run_firstCells_some (P := P) w inf.size 0 ad 0 cp [] (by simp) (by simp)
    simp [Builtin.append_, run_underlying hT.ok.1, sizeOf, run_typeInfo _ q1, Builtin.lenOf, hfc, storeCells]
  unfold Oper.wp
  rw [execOp_append a s x T w (v := .slice (some b) 0 0) (w' := w) (by rw [hb, hx, e2]; exact hr)]
  exact ⟨_, h, β, rfl, hi, Le.refl _, fun _ _ => rfl, ⟨⟨some b, 0, rfl, Nat.le_refl _, ⟨by unfold maxLen; omega, fun h => by cases h⟩, fun h => absurd rfl h⟩, Lm.nil⟩, trivial⟩
theorem ru_append1 {T E : TypeId} {s x : Operand} {bytes d : Nat} {z : Value} {l : List Nat} [hT : CElem P T E 1] [hz : CZero1 P E z bytes] (h1 : osd sl s = some (.one empS)) (h2 : osd sl x = some (.one (mag l))) (hl : l ≠ []) (hlen : l.length ≤ maxLen) (hby : l.length * bytes ≤ 140737488355328) (hd : Nat.blt d 1000 = true) (hn : look bx d = none) :
    RT P En n ⟨some d, .call ⟨.builtin .append, #[s, x], #[T, T]⟩, ty, pos, after, guard⟩ sl bx ⟨.own d 0 l.length l.length, [], [(d, l.map lb)]⟩ := by
  intro sl' bx' g1 _ g3 w0 h0 c h β a w Q hi hs
  have hd : d < 1000 := Nat.le_of_ble_eq_true hd
  have hn' : look bx' d = none := by rw [g3 d (by simp)]; exact hn
  obtain ⟨b, hb⟩ : empS.p h (a.eval s) := (osd_ok hs (x := s) (sd := .one empS) (by rw [g1 s (by simp [Op.operands, Call.operands])]; exact h1)).1
  obtain ⟨⟨a', cap', hx, _, _, h4⟩, hlm⟩ : (mag l).p h (a.eval x) := (osd_ok hs (x := x) (sd := .one (mag l)) (by rw [g1 x (by simp [Op.operands, Call.operands])]; exact h2)).1
  obtain ⟨bb, off, rfl, hc⟩ := h4 hl
  obtain ⟨hz1, hz2⟩ := hz.ok
  obtain ⟨inf, q1, q2⟩ := Option.map_eq_some_iff.1 hz1
  simp only [Prod.mk.injEq] at q2
  obtain ⟨q3, q4, q5⟩ := q2
  have hpos : 0 < l.length := List.length_pos_iff.2 hl
  obtain ⟨v', w', hr, hown, hgrow⟩ := run_append_arg_grows (P := P) w T ty E inf z 1 bytes hT.ok.1 q1 q3 q4 q5 (by rw [oneCell_cells hz2]; rfl) (by omega) b 0 0 [] (by simp) (by simp) ⟨bb, off, none⟩ l.length cap' (l.map fun (y : Nat) => Value.int .u32 (y : Int)) (by simp) (fun j u hu => by
    rw [Addr.add_mid]
    rw [List.getElem?_map] at hu
    obtain ⟨x, hx, rfl⟩ := Option.map_eq_some_iff.1 hu
    exact hi.holds _ _ _ (hc j x hx)) (by omega) (by omega) (by rw [Nat.zero_add]; exact hby)
  rw [Nat.zero_add, List.nil_append] at hown
  obtain ⟨o1, o2⟩ := hown
  rcases o2 with ⟨_, o2⟩ | ⟨g, cap, cur, rfl, ob, og, on, om, os, ot⟩
  · omega
  have hbel : Below w.heap.size w w' := ⟨hgrow.os, hgrow.tape, hgrow.output, hgrow.size, fun k hk => hgrow.block k hk (by simp)⟩
  have hI := hi.call (Le.refl h) (fun b o v e => by rw [hbel.cell (p := ⟨b, o, none⟩) (hi.holds.lt e)]; exact hi.holds b o v e) (fun b o v e e0 => by rw [e] at e0; cases e0) hbel
  have hlt : ∀ k, look bx' k ≠ none → β k < w.heap.size := fun k hk => by
    obtain ⟨qs, hq⟩ := Option.ne_none_iff_exists'.1 hk
    obtain ⟨_, _, us, rs, T', h3, _⟩ := hi.box k qs hq
    exact block_lt h3
  have hhg : ∀ o, h g o = none := fun o => by
    cases hh : h g o with
    | none => rfl
    | some v => have := hi.holds.lt hh; omega
  have hcur : cur = ((l.map fun (y : Nat) => Value.int .u32 (y : Int)) ++ cur.toList.drop l.length).toArray := by
    rw [Nat.mul_one] at ot
    apply Array.ext'
    simp only
    rw [← ot, List.take_append_drop]
  have hall : All2 h (l.map lb) (l.map fun (y : Nat) => Value.int .u32 (y : Int)) := all2_limbs l
  unfold Oper.wp
  rw [execOp_append a s x T w (v := .slice (some ⟨g, 0, none⟩) l.length cap) (w' := w') (by rw [hb, hx]; exact hr)]
  refine ⟨_, h, upd β d g, rfl, ⟨hI.env, hI.holds, hI.le0, hI.fresh, hI.below, hI.dis, fun j hj => ?_, fun j ps hj => ?_, fun i j hi' hj' e => ?_⟩, Le.refl _, fun j hj => upd_old (by rintro rfl; exact hj hn'), ⟨cap, by rw [upd_new], on, om⟩, ?_⟩
  · rw [upd_old (by omega)]; exact hI.pin j hj
  · rw [List.singleton_append, look_cons] at hj
    by_cases e : d = j
    · subst e
      rw [if_pos rfl] at hj
      cases hj
      rw [upd_new]
      exact ⟨⟨fun _ => Nat.le_trans hi.below.size ob, fun h => absurd hd (by omega)⟩, hhg, _, _, E, by rw [og, ← hcur], hall⟩
    · rw [if_neg e] at hj
      rw [upd_old (fun h => e (Eq.symm h))]
      exact hI.box j ps hj
  · rw [List.singleton_append, look_cons] at hi' hj'
    by_cases e1 : d = i <;> by_cases e2 : d = j
    · rw [← e1, ← e2]
    · subst e1
      rw [upd_new, upd_old (fun h => e2 (Eq.symm h))] at e
      rw [if_neg e2] at hj'
      have := hlt j hj'
      omega
    · subst e2
      rw [upd_new, upd_old (fun h => e1 (Eq.symm h))] at e
      rw [if_neg e1] at hi'
      have := hlt i hi'
      omega
    · rw [upd_old (fun h => e1 (Eq.symm h)), upd_old (fun h => e2 (Eq.symm h))] at e
      rw [if_neg e1] at hi'
      rw [if_neg e2] at hj'
      exact hI.inj i j hi' hj' e
  · show look ((d, _) :: bx') d ≠ none
    rw [look_cons, if_pos rfl]; simp
end
/-- A function that hands back a new box hands back a constant. -/
theorem FnG.const {P : Program} {En : Ev} {f : FuncId} {as : List Pd} {qs : List Pd} {k o len cap : Nat} {r : Pd} (hf : FnG P En f (as.map .one) [] (.own k o len cap) [(k, qs)]) (hk : Nat.blt k 1000 = true) (hr : PLe (arrP qs o len cap) r) : Fn P En f as r := by
  intro h w vs he hh ha
  have hargs' : ∀ (as : List Pd) (vs : List Value), AllV h as vs → AllS h (fun _ => 0) [] (as.map .one) vs := by
    intro as
    induction as with
    | nil => intro vs h; cases vs with
      | nil => trivial
      | cons => exact h.elim
    | cons p ps ih => intro vs h; cases vs with
      | nil => exact h.elim
      | cons v vs => exact ⟨h.1, trivial, ih vs h.2⟩
  refine (hf h (fun _ => 0) w vs he hh ⟨fun i qs hq => (by cases hq), fun i j hi' => absurd rfl hi'⟩ (fun i hi' => absurd rfl hi') (hargs' _ _ ha)).mono ?_
  rintro e w' ⟨v, h', β', rfl, g1, g2, g3, g4, g5, g6, g8, g7, _⟩
  have hbel : Below w.heap.size w w' := ⟨g4.os, g4.tape, g4.output, g4.size, fun k hk => g4.block k hk (by rintro ⟨i, hi', _⟩; exact hi' rfl)⟩
  obtain ⟨r1, us, rs, T', r2, r3⟩ := g5.box k qs (by rw [look_cons, if_pos rfl])
  have hnew : w.heap.size ≤ β' k := g8 k (by rw [look_cons, if_pos rfl]; simp) (Nat.le_of_ble_eq_true hk)
  have hle := addB_le (vs := us) r1
  obtain ⟨cap', g7, hc⟩ : ∃ cap', v = .slice (some ⟨β' k, o, none⟩) len cap' ∧ cap ≤ cap' ∧ cap' ≤ maxLen := g7
  refine ⟨v, addB h' (β' k) us, rfl, g1.trans hle, fun b j u e => ?_, fun b j u e e0 => ?_, hbel, hr _ _ ⟨β' k, us, cap', g7, hc, r3.mono hle, fun j u hu => by rw [addB_new]; exact hu⟩⟩
  · by_cases hq : b = β' k
    · subst hq
      rw [addB_new] at e
      rw [cell_of_row _ _ j _ T' _ r2]
      have hlt := (List.getElem?_eq_some_iff.1 e).1
      simpa [List.getElem?_append_left hlt] using e
    · rw [addB_old hq] at e; exact g2 b j u e
  · by_cases hq : b = β' k
    · subst hq; exact hnew
    · rw [addB_old hq] at e; exact g3 b j u e e0
end Go.Proofs.YtnhbdldchoepfaaDoor

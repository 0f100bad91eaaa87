/- The operations of the abstract walk. For any program. -/
import Derived.Test.YtnhbdldchoepfaaDoorAb
import Derived.BigCall
import Derived.WalkLawsBesides
namespace Go.Proofs.YtnhbdldchoepfaaDoor
open Go.RowKit

def Oper.rds (o : Oper) : List Nat := o.op.operands.toList.filterMap fun | .tmp t => some t | _ => none
/-- What an operation does, its operands and boxes known. -/
def RT (P : Program) (En : Ev) (n : Nat) (o : Oper) (sl : Sl) (bx : Bx) (e : Eff) : Prop :=
  ∀ sl' bx', (∀ x ∈ o.op.operands.toList, osd sl' x = osd sl x) → (∀ b ∈ e.rb, look bx' b = look bx b) → (∀ b ∈ e.wb.map (·.1), look bx' b = look bx b) → Tri P En n o sl' bx' e
section
variable {P : Program} {En : Ev} {n : Nat} {ops : Array Oper} {o : Oper} {sl : Sl} {bx : Bx} {e : Eff}
theorem osd_of_looks {sl' : Sl} (h : ∀ t ∈ o.looksAt ops, look sl' t = look sl t) : ∀ x ∈ o.op.operands.toList, osd sl' x = osd sl x := by
  intro x hx
  cases x with
  | tmp t => exact h t (List.mem_append_left _ (List.mem_filterMap.2 ⟨.tmp t, hx, rfl⟩))
  | const v => rfl
  | func f => rfl
  | global g => rfl
theorem LT.plain (hg : o.guard = none) (h : RT P En n o sl bx e) : LT P En n ops o sl bx e := fun sl' bx' h1 h2 h3 =>
  TriG.of_tri hg (h sl' bx' (osd_of_looks h1) h2 h3)
theorem guard_looks {g t : Nat} {b : Bool} (hg : o.guard = some (g, b)) (hd : (ops[g]?).bind (·.dst) = some t) : t ∈ o.looksAt ops := by
  unfold Oper.looksAt
  rw [hg]
  simp [hd]
theorem LT.run {g t : Nat} {b : Bool} (hg : o.guard = some (g, b)) (hd : (ops[g]?).bind (·.dst) = some t) (ht : look sl t = some (.one (ex (.bool b)))) (h : RT P En n o sl bx e) : LT P En n ops o sl bx e := fun sl' bx' h1 h2 h3 =>
  TriG.of_run hg hd (by rw [h1 t (guard_looks hg hd)]; exact ht) (h sl' bx' (osd_of_looks h1) h2 h3)
theorem LT.skip {g t : Nat} {b : Bool} (hg : o.guard = some (g, b)) (hd : (ops[g]?).bind (·.dst) = some t) (ht : look sl t = some (.one (ex (.bool (!b))))) : LT P En n ops o sl bx ⟨.one (ex undef), [], []⟩ := fun _ _ h1 _ _ =>
  TriG.of_skip hg hd (by rw [h1 t (guard_looks hg hd)]; exact ht)
/-- An operation that yields a value and does nothing else. -/
theorem RT.pure {sd : SD} (H : ∀ (ρ : Operand → Value) (h : GH) (β : Nat → Nat) (bx' : Bx), (∀ x ∈ o.op.operands.toList, ∀ s, osd sl x = some s → s.ok h β (ρ x) ∧ s.live bx') → ∃ v, (∀ w, Holds h w → (execOp ρ o).run P w = .ok (.value v) w) ∧ sd.ok h β v ∧ sd.live bx') :
    RT P En n o sl bx ⟨sd, [], []⟩ := by
  intro sl' bx' h1 _ _ w0 h0 c h β a w Q hi hs
  obtain ⟨v, hv, hok, hl⟩ := H a.eval h β bx' (fun x hx s hxs => osd_ok hs (by rw [h1 x hx]; exact hxs))
  unfold Oper.wp
  rw [hv w hi.holds]
  exact ⟨v, h, β, rfl, hi, Le.refl _, fun _ _ => rfl, hok, hl⟩
end
section
variable {P : Program} {En : Ev} {n : Nat} {sl : Sl} {bx : Bx} {dst : Option Tmp} {ty : TypeId} {pos : String} {after : Array Edge} {guard : Option (Nat × Bool)}
theorem rt_move {x : Operand} {sd : SD} (hx : osd sl x = some sd) : RT P En n ⟨dst, .move x, ty, pos, after, guard⟩ sl bx ⟨sd, [], []⟩ :=
  RT.pure fun ρ _ _ _ H => by
    obtain ⟨h1, h2⟩ := H x (by simp [Op.operands]) sd hx
    exact ⟨ρ x, fun _ _ => rfl, h1, h2⟩
theorem rt_assign {x : Operand} {sd : SD} (hx : osd sl x = some sd) : RT P En n ⟨dst, .assign x, ty, pos, after, guard⟩ sl bx ⟨sd, [], []⟩ :=
  RT.pure fun ρ _ _ _ H => by
    obtain ⟨h1, h2⟩ := H x (by simp [Op.operands]) sd hx
    exact ⟨ρ x, fun _ _ => rfl, h1, h2⟩
theorem rt_pick_true {c x y : Operand} {sd : SD} (hc : osd sl c = some (.one (ex (.bool true)))) (hx : osd sl x = some sd) : RT P En n ⟨dst, .pick c x y, ty, pos, after, guard⟩ sl bx ⟨sd, [], []⟩ :=
  RT.pure fun ρ _ _ _ H => by
    obtain ⟨h1, h2⟩ := H x (by simp [Op.operands]) sd hx
    have h3 : ρ c = .bool true := (H c (by simp [Op.operands]) _ hc).1
    exact ⟨ρ x, fun _ _ => by simp [execOp, h3, asBool], h1, h2⟩
theorem rt_pick_false {c x y : Operand} {sd : SD} (hc : osd sl c = some (.one (ex (.bool false)))) (hx : osd sl y = some sd) : RT P En n ⟨dst, .pick c x y, ty, pos, after, guard⟩ sl bx ⟨sd, [], []⟩ :=
  RT.pure fun ρ _ _ _ H => by
    obtain ⟨h1, h2⟩ := H y (by simp [Op.operands]) sd hx
    have h3 : ρ c = .bool false := (H c (by simp [Op.operands]) _ hc).1
    exact ⟨ρ y, fun _ _ => by simp [execOp, h3, asBool], h1, h2⟩
/-- Two exact values. -/
theorem rt_bin {bop : BinOp} {T T' : TypeId} {x y : Operand} {vx vy v : Value} (hx : osd sl x = some (.one (ex vx))) (hy : osd sl y = some (.one (ex vy)))
    (hr : ∀ w, (do eqGuard bop T x y vx vy; Go.binOp bop T vx vy : Sem Value).run P w = .ok v w) : RT P En n ⟨dst, .binOp bop T x y T', ty, pos, after, guard⟩ sl bx ⟨.one (ex v), [], []⟩ :=
  RT.pure fun ρ _ _ _ H => by
    have h1 : ρ x = vx := (H x (by simp [Op.operands]) _ hx).1
    have h2 : ρ y = vy := (H y (by simp [Op.operands]) _ hy).1
    refine ⟨v, fun w _ => ?_, rfl, trivial⟩
    simp only [execOp, h1, h2]
    rw [Sem.run_bind, hr w]
    rfl
theorem rt_bin_to {bop : BinOp} {T T' : TypeId} {x y : Operand} {vx vy v v' : Value} (hx : osd sl x = some (.one (ex vx))) (hy : osd sl y = some (.one (ex vy)))
    (hr : ∀ w, (do eqGuard bop T x y vx vy; Go.binOp bop T vx vy : Sem Value).run P w = .ok v w) (e : v = v') : RT P En n ⟨dst, .binOp bop T x y T', ty, pos, after, guard⟩ sl bx ⟨.one (ex v'), [], []⟩ := by subst e; exact rt_bin hx hy hr
theorem rt_un {uop : UnOp} {T : TypeId} {x : Operand} {vx v : Value} (hx : osd sl x = some (.one (ex vx))) (hr : ∀ w, (Op.unary uop vx).run P w = .ok v w) : RT P En n ⟨dst, .unOp uop T x, ty, pos, after, guard⟩ sl bx ⟨.one (ex v), [], []⟩ :=
  RT.pure fun ρ _ _ _ H => by
    have h1 : ρ x = vx := (H x (by simp [Op.operands]) _ hx).1
    refine ⟨v, fun w _ => ?_, rfl, trivial⟩
    simp only [execOp, h1]
    rw [Sem.run_bind, hr w]
    rfl
theorem rt_conv {S T : TypeId} {x : Operand} {vx v : Value} (hx : osd sl x = some (.one (ex vx))) (hr : ∀ w, (convert S T vx).run P w = .ok v w) : RT P En n ⟨dst, .convert S T x, ty, pos, after, guard⟩ sl bx ⟨.one (ex v), [], []⟩ :=
  RT.pure fun ρ _ _ _ H => by
    have h1 : ρ x = vx := (H x (by simp [Op.operands]) _ hx).1
    refine ⟨v, fun w _ => ?_, rfl, trivial⟩
    simp only [execOp, h1]
    rw [Sem.run_bind, hr w]
    rfl
theorem rt_conv_to {S T : TypeId} {x : Operand} {vx v v' : Value} (hx : osd sl x = some (.one (ex vx))) (hr : ∀ w, (convert S T vx).run P w = .ok v w) (e : v = v') : RT P En n ⟨dst, .convert S T x, ty, pos, after, guard⟩ sl bx ⟨.one (ex v'), [], []⟩ := by subst e; exact rt_conv hx hr
theorem rt_un_to {uop : UnOp} {T : TypeId} {x : Operand} {vx v v' : Value} (hx : osd sl x = some (.one (ex vx))) (hr : ∀ w, (Op.unary uop vx).run P w = .ok v w) (e : v = v') : RT P En n ⟨dst, .unOp uop T x, ty, pos, after, guard⟩ sl bx ⟨.one (ex v'), [], []⟩ := by subst e; exact rt_un hx hr
/-- A type of k cells. -/
def TyRow (P : Program) (T : TypeId) (k : Nat) : Prop := ∃ d, P.underlying T = some d ∧ d.isRow = true ∧ (P.info? T).map (·.size) = some k
def TyOne (P : Program) (T : TypeId) : Prop := ∃ d, P.underlying T = some d ∧ d.isRow = false ∧ (P.info? T).map (·.size) = some 1
theorem run_isAgg {T : TypeId} {d : TypeDesc} (h : P.underlying T = some d) (w : World) : (isAgg T).run P w = .ok d.isRow w := by
  unfold isAgg
  simp only [Sem.run_bind, run_underlying h, Result.andThen_ok]
  cases d <;> rfl
theorem range_box {w : World} {b o : Nat} {vs rest us : List Value} {T : TypeId} (hg : w.heap[b]? = some (.cells (vs ++ rest).toArray T (0, 0))) (hu : (vs.drop o).take us.length = us) : w.rangeAt b o us := by
  intro j v hj
  have : vs[o + j]? = some v := by
    rw [← hu, List.getElem?_take] at hj
    split at hj
    · simpa using hj
    · cases hj
  rw [cell_of_row w b (o + j) _ T _ hg]
  have hlt := (List.getElem?_eq_some_iff.1 this).1
  simpa [List.getElem?_append_left hlt] using this
/-- A whole variable, or a part of it, out of a box. -/
theorem rt_loadR {T : TypeId} {x : Operand} {b k : Nat} {ps : List Pd} (o : Nat) (hx : osd sl x = some (.ptr b o)) (hb : look bx b = some ps) (ht : TyRow P T k) (hk : Nat.ble (o + k) ps.length = true) :
    RT P En n ⟨dst, .load T x, ty, pos, after, guard⟩ sl bx ⟨.one (aggP ((ps.drop o).take k)), [b], []⟩ := by
  intro sl' bx' h1 h2 _ w0 h0 c h β a w Q hi hs
  have hx' : a.eval x = .pointer (some ⟨β b, o, none⟩) := (osd_ok hs (x := x) (sd := .ptr b o) (by rw [h1 x (by simp [Op.operands])]; exact hx)).1
  obtain ⟨_, _, vs, rest, T', hg, ha⟩ := hi.box b ps (by rw [h2 b (by simp)]; exact hb)
  have hal := (ha.drop o).take k
  have hk := Nat.le_of_ble_eq_true hk
  have hlen := ha.length
  have hl : ((vs.drop o).take k).length = k := by simp; omega
  obtain ⟨d, hd1, hd2, hd3⟩ := ht
  refine wp_load_mid T x rfl (β b) o hx' ((vs.drop o).take k) d (range_box hg (by rw [hl])) hd1 hd2 (by rw [hl]; exact hd3) ?_
  exact ⟨_, h, β, rfl, hi, Le.refl _, fun _ _ => rfl, ⟨_, rfl, hal⟩, trivial⟩
theorem rt_load1 {T : TypeId} {x : Operand} {b : Nat} {ps : List Pd} {p : Pd} (o : Nat) (hx : osd sl x = some (.ptr b o)) (hb : look bx b = some ps) (ht : TyOne P T) (hp : ps[o]? = some p) :
    RT P En n ⟨dst, .load T x, ty, pos, after, guard⟩ sl bx ⟨.one p, [b], []⟩ := by
  intro sl' bx' h1 h2 _ w0 h0 c h β a w Q hi hs
  have hx' : a.eval x = .pointer (some ⟨β b, o, none⟩) := (osd_ok hs (x := x) (sd := .ptr b o) (by rw [h1 x (by simp [Op.operands])]; exact hx)).1
  obtain ⟨_, _, vs, rest, T', hg, ha⟩ := hi.box b ps (by rw [h2 b (by simp)]; exact hb)
  obtain ⟨v, hv, hpv, _⟩ := ha.get hp
  obtain ⟨d, hd1, hd2, _⟩ := ht
  have hc : w.cell? ⟨β b, o, none⟩ = some v := by
    rw [cell_of_row w _ o _ T' _ hg]
    have hlt := (List.getElem?_eq_some_iff.1 hv).1
    simpa [List.getElem?_append_left hlt] using hv
  unfold Oper.wp
  have : (execOp a.eval ⟨dst, .load T x, ty, pos, after, guard⟩).run P w = .ok (.value v) w := by
    simp only [execOp, hx', Instr.loadAt, Instr.sureAddr, loadVar, Sem.run_bind, Sem.run_pure, Result.andThen_ok, run_isAgg hd1, hd2]
    simp [load, Sem.run, hc]
  rw [this]
  exact ⟨v, h, β, rfl, hi, Le.refl _, fun _ _ => rfl, hpv, trivial⟩
theorem there_box {w : World} {b o k : Nat} {vs rest : List Value} {T : TypeId} (hg : w.heap[b]? = some (.cells (vs ++ rest).toArray T (0, 0))) (hk : o + k ≤ vs.length) : w.there b o k := by
  intro j hj
  have hlt : o + j < vs.length := by omega
  refine ⟨?_, ?_⟩
  · rw [cell_of_row w b (o + j) _ T _ hg]; simp [List.getElem?_append_left hlt, hlt]
  · unfold World.frozen?; simp [hg]
theorem rt_storeR {T : TypeId} {x y : Operand} {b k : Nat} {ps qs : List Pd} (o : Nat) (hx : osd sl x = some (.ptr b o)) (hy : osd sl y = some (.one (aggP qs))) (hb : look bx b = some ps) (ht : TyRow P T k) (hq : Nat.beq qs.length k = true) (hk : Nat.ble (o + k) ps.length = true) :
    RT P En n ⟨dst, .store T x y, ty, pos, after, guard⟩ sl bx ⟨.one (ex undef), [b], [(b, putL ps o qs)]⟩ := by
  intro sl' bx' h1 h2 _ w0 h0 c h β a w Q hi hs
  have hx' : a.eval x = .pointer (some ⟨β b, o, none⟩) := (osd_ok hs (x := x) (sd := .ptr b o) (by rw [h1 x (by simp [Op.operands])]; exact hx)).1
  obtain ⟨us, hus, hall⟩ : (aggP qs).p h (a.eval y) := (osd_ok hs (x := y) (sd := .one (aggP qs)) (by rw [h1 y (by simp [Op.operands])]; exact hy)).1
  have hb' : look bx' b = some ps := by rw [h2 b (by simp)]; exact hb
  obtain ⟨_, _, vs, rest, T', hg, ha⟩ := hi.box b ps hb'
  have hk := Nat.le_of_ble_eq_true hk
  have hq := Nat.eq_of_beq_eq_true hq
  have hlen := ha.length
  have hl := hall.length
  obtain ⟨d, hd1, hd2, hd3⟩ := ht
  refine wp_store_mid T x y rfl (β b) o us.toArray hx' hus ?_ ?_ (all_oneCell_toArray hall.one) ?_
  · exact there_box hg (by simp; omega)
  · rw [hd3]; simp; omega
  · exact ⟨undef, h, β, rfl, hi.store hb' hall o (by omega), Le.refl _, fun _ _ => rfl, rfl, trivial⟩
theorem oneCell_cells {v : Value} (h : v.oneCell' = true) : v.cells = #[v] := by cases v <;> simp [Value.oneCell'] at h <;> rfl
theorem rt_store1 {T : TypeId} {x y : Operand} {b : Nat} {ps : List Pd} {q : Pd} [C1 q] (o : Nat) (hx : osd sl x = some (.ptr b o)) (hy : osd sl y = some (.one q)) (hb : look bx b = some ps) (ht : TyOne P T) (hk : Nat.blt o ps.length = true) :
    RT P En n ⟨dst, .store T x y, ty, pos, after, guard⟩ sl bx ⟨.one (ex undef), [b], [(b, putL ps o [q])]⟩ := by
  intro sl' bx' h1 h2 _ w0 h0 c h β a w Q hi hs
  have hx' : a.eval x = .pointer (some ⟨β b, o, none⟩) := (osd_ok hs (x := x) (sd := .ptr b o) (by rw [h1 x (by simp [Op.operands])]; exact hx)).1
  have hq : q.p h (a.eval y) := (osd_ok hs (x := y) (sd := .one q) (by rw [h1 y (by simp [Op.operands])]; exact hy)).1
  have hb' : look bx' b = some ps := by rw [h2 b (by simp)]; exact hb
  obtain ⟨_, _, vs, rest, T', hg, ha⟩ := hi.box b ps hb'
  have hk : o + 1 ≤ ps.length := Nat.le_of_ble_eq_true hk
  have hlen := ha.length
  have h1c := C1.c1 (p := q) h _ hq
  have hth := there_box (k := 1) hg (show o + 1 ≤ vs.length by omega)
  obtain ⟨hs1, hs2⟩ := hth 0 (by omega)
  obtain ⟨d, hd1, hd2, hd3⟩ := ht
  have hrun : (execOp a.eval ⟨dst, .store T x y, ty, pos, after, guard⟩).run P w = .ok .skip (w.setCells (β b) o [a.eval y]) := by
    have c1 : ∀ j, j < [a.eval y].length → (w.cell? ⟨β b, o + 0 + j, none⟩).isSome = true := by
      intro j hj
      have : j = 0 := by simpa using hj
      subst this
      exact hs1
    have c2 : ∀ j, j < [a.eval y].length → w.frozen? ⟨β b, o + 0 + j, none⟩ = false := by
      intro j hj
      have : j = 0 := by simpa using hj
      subst this
      exact hs2
    have hsc := run_storeCells_cells (P := P) (β b) o [a.eval y] 0 w c1 c2 (fun v hv => by simp at hv; rw [hv]; exact h1c)
    cases hq : P.info? T with
    | none => rw [hq] at hd3; cases hd3
    | some i =>
      rw [hq] at hd3
      have hi1 : i.size = 1 := by simpa using hd3
      simp only [execOp, hx', Instr.storeAt, Instr.sureAddr, storeVar, Sem.run_bind, Sem.run_pure, Result.andThen_ok, oneCell_cells h1c, sizeOf, run_typeInfo _ hq, hi1]
      simp only [List.size_toArray, List.length_singleton, ne_eq, not_true_eq_false, if_false]
      simp only [Nat.add_zero] at hsc
      rw [hsc]
      rfl
  unfold Oper.wp
  rw [hrun]
  exact ⟨undef, h, β, rfl, hi.store hb' (qs := [q]) (us := [a.eval y]) ⟨hq, h1c, trivial⟩ o hk, Le.refl _, fun _ _ => rfl, rfl, trivial⟩
/-- A new box. -/
theorem upd_old {β : Nat → Nat} {i b j : Nat} (h : j ≠ i) : upd β i b j = β j := by unfold upd; rw [if_neg h]
theorem upd_new {β : Nat → Nat} {i b : Nat} : upd β i b i = b := by unfold upd; rw [if_pos rfl]
theorem new_box {o : Oper} {i : Nat} {ps : List Pd} (hi0 : i < 1000) (hn : look bx i = none)
    (H : ∀ (h : GH) (β : Nat → Nat) (bx' : Bx) (ρ : Operand → Value), (∀ x ∈ o.op.operands.toList, ∀ s, osd sl x = some s → s.ok h β (ρ x) ∧ s.live bx') → ∃ (vs : List Value) (T : TypeId), All2 h ps vs ∧ ∀ w, (execOp ρ o).run P w = .ok (.value (.pointer (some ⟨w.heap.size, 0, none⟩))) (w.alloc (.cells vs.toArray T))) :
    RT P En n o sl bx ⟨.ptr i 0, [], [(i, ps)]⟩ := by
  intro sl' bx' h1 _ h3 w0 h0 c h β a w Q hi hs
  have hn' : look bx' i = none := by rw [h3 i (by simp)]; exact hn
  obtain ⟨vs, T, ha, hr⟩ := H h β bx' a.eval (fun x hx s hxs => osd_ok hs (by rw [h1 x hx]; exact hxs))
  unfold Oper.wp
  rw [hr w]
  refine ⟨_, h, upd β i w.heap.size, rfl, hi.alloc i hi0 ha T, Le.refl _, fun j hj => ?_, ?_, ?_⟩
  · exact upd_old (by rintro rfl; exact hj hn')
  · show _ = _; rw [upd_new]
  · show look ((i, ps) :: bx') i ≠ none; rw [look_cons, if_pos rfl]; simp
theorem run_newVar (T : TypeId) (v : Value) (w : World) : (newVar T v).run P w = .ok ⟨w.heap.size, 0, none⟩ (w.alloc (.cells v.cells T)) := rfl
theorem rt_boxR {T : TypeId} {x : Operand} {ps : List Pd} (i : Nat) (hx : osd sl x = some (.one (aggP ps))) (hi0 : i < 1000) (hn : look bx i = none) : RT P En n ⟨dst, .box T x, ty, pos, after, guard⟩ sl bx ⟨.ptr i 0, [], [(i, ps)]⟩ :=
  new_box hi0 hn fun h β bx' ρ H => by
    obtain ⟨vs, hv, ha⟩ : (aggP ps).p h (ρ x) := (H x (by simp [Op.operands]) _ hx).1
    exact ⟨vs, T, ha, fun w => by simp only [execOp, Instr.box, Sem.run_bind, hv]; rw [run_newVar]; rfl⟩
theorem rt_box1 {T : TypeId} {x : Operand} {p : Pd} [C1 p] (i : Nat) (hx : osd sl x = some (.one p)) (hi0 : i < 1000) (hn : look bx i = none) : RT P En n ⟨dst, .box T x, ty, pos, after, guard⟩ sl bx ⟨.ptr i 0, [], [(i, [p])]⟩ :=
  new_box hi0 hn fun h β bx' ρ H => by
    have hp : p.p h (ρ x) := (H x (by simp [Op.operands]) _ hx).1
    have h1c := C1.c1 (p := p) h _ hp
    exact ⟨[ρ x], T, ⟨hp, h1c, trivial⟩, fun w => by simp only [execOp, Instr.box, Sem.run_bind]; rw [run_newVar, oneCell_cells h1c]; rfl⟩
/-- The zero of a type, its cells. -/
def ZeroOf (P : Program) (T : TypeId) (vs : List Value) : Prop := (P.info? T).map (fun i => i.zero.map (·.cells)) = some (some vs.toArray) ∧ ∀ v ∈ vs, v.oneCell' = true
theorem all2_ex {h : GH} : ∀ {vs : List Value}, (∀ v ∈ vs, v.oneCell' = true) → All2 h (vs.map ex) vs
  | [], _ => trivial
  | v :: vs, hv => ⟨rfl, hv v (by simp), all2_ex fun u hu => hv u (by simp [hu])⟩
theorem rt_alloc {T : TypeId} {vs : List Value} (i : Nat) (hz : ZeroOf P T vs) (hi0 : i < 1000) (hn : look bx i = none) : RT P En n ⟨dst, .alloc T, ty, pos, after, guard⟩ sl bx ⟨.ptr i 0, [], [(i, vs.map ex)]⟩ :=
  new_box hi0 hn fun h β bx' ρ H => by
    obtain ⟨hz1, hz2⟩ := hz
    refine ⟨vs, T, all2_ex hz2, fun w => ?_⟩
    cases hq : P.info? T with
    | none => rw [hq] at hz1; cases hz1
    | some inf =>
      rw [hq] at hz1
      simp only [Option.map_some, Option.some.injEq] at hz1
      cases hzz : inf.zero with
      | none => rw [hzz] at hz1; cases hz1
      | some z =>
        rw [hzz] at hz1
        simp only [Option.map_some, Option.some.injEq] at hz1
        simp only [execOp, Instr.alloc, zeroValue, Sem.run_bind, run_typeInfo _ hq, Result.andThen_ok, hzz, Sem.run_pure]
        rw [run_newVar, hz1]
        rfl
/-- The place of a field. -/
def FieldOf (P : Program) (S : TypeId) (f off : Nat) : Prop := ∃ fs fd, P.underlying S = some (.struct fs) ∧ fs[f]? = some fd ∧ fd.offset = off ∧ (P.info? fd.type).map (fun i => Nat.beq i.size 0) = some false
theorem rt_fieldAddr {S : TypeId} {x : Operand} {f off b o : Nat} (hx : osd sl x = some (.ptr b o)) (hf : FieldOf P S f off) : RT P En n ⟨dst, .fieldAddr S x f, ty, pos, after, guard⟩ sl bx ⟨.ptr b (o + off), [], []⟩ :=
  RT.pure fun ρ h β bx' H => by
    obtain ⟨h1, h2⟩ := H x (by simp [Op.operands]) _ hx
    have h1 : ρ x = .pointer (some ⟨β b, o, none⟩) := h1
    obtain ⟨fs, fd, e1, e2, e3, e45⟩ := hf
    obtain ⟨i, e4, e5'⟩ := Option.map_eq_some_iff.1 e45
    have e5 : i.size ≠ 0 := by intro h0; rw [h0] at e5'; cases e5'
    refine ⟨.pointer (some ⟨β b, o + off, none⟩), fun w _ => ?_, rfl, h2⟩
    simp only [execOp, h1, Instr.fieldAt, Instr.sureAddr, Sem.run_bind, run_underlying e1, Result.andThen_ok, e2, Sem.run_pure, fieldPlace, sizeOf, run_typeInfo _ e4, if_neg e5]
    rw [Addr.add_mid, e3]
/-- A field of a value. -/
def FieldTy (P : Program) (S : TypeId) (f off : Nat) (T : TypeId) : Prop := ∃ fs fd, P.underlying S = some (.struct fs) ∧ fs[f]? = some fd ∧ fd.offset = off ∧ fd.type = T
theorem rt_field1 {S T : TypeId} {x : Operand} {f off : Nat} {ps : List Pd} {p : Pd} (hx : osd sl x = some (.one (aggP ps))) (hf : FieldTy P S f off T) (ht : TyOne P T) (hp : ps[off]? = some p) : RT P En n ⟨dst, .field S x f, ty, pos, after, guard⟩ sl bx ⟨.one p, [], []⟩ :=
  RT.pure fun ρ h β bx' H => by
    obtain ⟨vs, hv, ha⟩ : (aggP ps).p h (ρ x) := (H x (by simp [Op.operands]) _ hx).1
    obtain ⟨v, hv2, hpv, _⟩ := ha.get hp
    obtain ⟨fs, fd, e1, e2, e3, e4⟩ := hf
    obtain ⟨d, hd1, hd2, _⟩ := ht
    refine ⟨v, fun w _ => ?_, hpv, trivial⟩
    simp only [execOp, hv, Instr.field, Sem.run_bind, run_underlying e1, Result.andThen_ok, e2, asAgg, Sem.run_pure, part, e4, run_isAgg hd1, hd2, e3]
    simp [hv2]
theorem rt_fieldR {S T : TypeId} {x : Operand} {f off k : Nat} {ps : List Pd} (hx : osd sl x = some (.one (aggP ps))) (hf : FieldTy P S f off T) (ht : TyRow P T k) : RT P En n ⟨dst, .field S x f, ty, pos, after, guard⟩ sl bx ⟨.one (aggP ((ps.drop off).take k)), [], []⟩ :=
  RT.pure fun ρ h β bx' H => by
    obtain ⟨vs, hv, ha⟩ : (aggP ps).p h (ρ x) := (H x (by simp [Op.operands]) _ hx).1
    obtain ⟨fs, fd, e1, e2, e3, e4⟩ := hf
    obtain ⟨d, hd1, hd2, hd3⟩ := ht
    cases hq : P.info? T with
    | none => rw [hq] at hd3; cases hd3
    | some i =>
      rw [hq] at hd3
      have hi : i.size = k := by simpa using hd3
      refine ⟨.agg ((vs.drop off).take k).toArray, fun w _ => ?_, ⟨_, rfl, (ha.drop off).take k⟩, trivial⟩
      simp only [execOp, hv, Instr.field, Sem.run_bind, run_underlying e1, Result.andThen_ok, e2, asAgg, Sem.run_pure, part, e4, run_isAgg hd1, hd2, e3, sizeOf]
      simp [List.extract_eq_take_drop, run_typeInfo _ hq, hi]
/-- The cells of an operand: one value, or a struct's. -/
def Part (sl : Sl) (x : Operand) (ps : List Pd) : Prop := (∃ p, C1 p ∧ osd sl x = some (.one p) ∧ ps = [p]) ∨ osd sl x = some (.one (aggP ps))
theorem Part.one {x : Operand} {p : Pd} [h : C1 p] (hx : osd sl x = some (.one p)) : Part sl x [p] := .inl ⟨p, h, hx, rfl⟩
theorem Part.row {x : Operand} {ps : List Pd} (hx : osd sl x = some (.one (aggP ps))) : Part sl x ps := .inr hx
theorem Part.ok {x : Operand} {ps : List Pd} (hp : Part sl x ps) {ρ : Operand → Value} {h : GH} {β : Nat → Nat} {bx' : Bx} (H : ∀ s, osd sl x = some s → s.ok h β (ρ x) ∧ s.live bx') : ∃ vs : List Value, (ρ x).cells = vs.toArray ∧ All2 h ps vs := by
  rcases hp with ⟨p, h1, h2, rfl⟩ | h2
  · have hp : p.p h (ρ x) := (H _ h2).1
    have h1c := C1.c1 (p := p) h _ hp
    exact ⟨[ρ x], oneCell_cells h1c, hp, h1c, trivial⟩
  · obtain ⟨vs, hv, ha⟩ : (aggP ps).p h (ρ x) := (H _ h2).1
    exact ⟨vs, by rw [hv]; rfl, ha⟩
theorem fold_put : ∀ (us : List Value) (k off : Nat) (cs : Array Value), (us.zipIdx k).foldl (fun cs x => cs.setIfInBounds (off + x.2) x.1) cs = (putL cs.toList (off + k) us).toArray
  | [], _, _, cs => by simp [putL]
  | u :: us, k, off, cs => by
    simp only [List.zipIdx_cons, List.foldl_cons, putL]
    rw [fold_put us (k + 1) off]
    simp [Nat.add_assoc]
def partsOf (sl : Sl) : List (Nat × Operand) → List (Nat × List Pd) → Prop
  | [], [] => True
  | x :: xs, p :: ps => x.1 = p.1 ∧ Part sl x.2 p.2 ∧ partsOf sl xs ps
  | _, _ => False
def fillP (pl : Nat → Option (Nat × Nat)) : List Pd → List (Nat × List Pd) → Option (List Pd)
  | cs, [] => some cs
  | cs, (i, ps) :: r => match pl i with
    | none => none
    | some (off, size) => cond (Nat.beq ps.length size && Nat.ble (off + size) cs.length) (fillP pl (putL cs off ps) r) none
theorem fill_ok {ρ : Operand → Value} {h : GH} {β : Nat → Nat} {bx' : Bx} {pl : Nat → Option (Nat × Nat)} : ∀ {xs : List (Nat × Operand)} {ps : List (Nat × List Pd)} {cs rs : List Pd} {vs : List Value}, partsOf sl xs ps → (∀ x ∈ xs, ∀ s, osd sl x.2 = some s → s.ok h β (ρ x.2) ∧ s.live bx') → fillP pl cs ps = some rs → All2 h cs vs →
    ∃ us : List Value, Instr.fill pl vs.toArray (xs.map fun x => (x.1, ρ x.2)) = some us.toArray ∧ All2 h rs us
  | [], [], cs, rs, vs, _, _, hf, ha => by cases hf; exact ⟨vs, rfl, ha⟩
  | (i, x) :: xs, (j, ps) :: r, cs, rs, vs, ⟨e, hp, hr⟩, H, hf, ha => by
    simp only at e hp
    subst e
    obtain ⟨us, hu, hua⟩ := hp.ok (H (i, x) (by simp))
    unfold fillP at hf
    cases hpl : pl i with
    | none => rw [hpl] at hf; cases hf
    | some os =>
      obtain ⟨off, size⟩ := os
      rw [hpl] at hf
      simp only at hf
      cases hc : Nat.beq ps.length size && Nat.ble (off + size) cs.length with
      | false => rw [hc] at hf; cases hf
      | true =>
        rw [hc] at hf
        simp only [Bool.and_eq_true] at hc
        have e1 := Nat.eq_of_beq_eq_true hc.1
        have e2 := Nat.le_of_ble_eq_true hc.2
        have e3 := hua.length
        have e4 := ha.length
        obtain ⟨us', h1, h2⟩ := fill_ok hr (fun y hy => H y (by simp [hy])) hf (ha.put off hua)
        refine ⟨us', ?_, h2⟩
        simp only [List.map_cons, Instr.fill]
        rw [hpl]
        simp only [hu]
        rw [if_neg (by simp; omega)]
        rw [← h1]
        congr 1
        have := fold_put us 0 off vs.toArray
        simpa using this
  | [], _ :: _, _, _, _, h, _, _, _ => h.elim
  | _ :: _, [], _, _, _, h, _, _, _ => h.elim
/-- A struct type: the places of its fields, its zero. -/
def StructOf (P : Program) (T : TypeId) (pl : List (Nat × Nat)) (zs : List Value) : Prop :=
  ZeroOf P T zs ∧ ∃ fs, P.underlying T = some (.struct fs) ∧ ∀ w, (fs.mapM fun f => do pure (f.offset, ← sizeOf f.type) : Sem (Array (Nat × Nat))).run P w = .ok pl.toArray w
theorem run_zeroValue' {T : TypeId} {zs : List Value} (hz : ZeroOf P T zs) (w : World) : ∃ z, (zeroValue T).run P w = .ok z w ∧ z.cells = zs.toArray := by
  obtain ⟨hz1, _⟩ := hz
  cases hq : P.info? T with
  | none => rw [hq] at hz1; cases hz1
  | some inf =>
    rw [hq] at hz1
    simp only [Option.map_some, Option.some.injEq] at hz1
    cases hzz : inf.zero with
    | none => rw [hzz] at hz1; cases hz1
    | some z =>
      rw [hzz] at hz1
      simp only [Option.map_some, Option.some.injEq] at hz1
      exact ⟨z, by simp only [zeroValue, Sem.run_bind, run_typeInfo _ hq, Result.andThen_ok, hzz, Sem.run_pure], hz1⟩
theorem rt_build {T : TypeId} {xs : List (Nat × Operand)} {ps : List (Nat × List Pd)} {pl : List (Nat × Nat)} {zs : List Value} {rs : List Pd} (ht : StructOf P T pl zs) (hp : partsOf sl xs ps) (hf : fillP (fun (i : Nat) => pl[i]?) (zs.map ex) ps = some rs) :
    RT P En n ⟨dst, .build T xs.toArray, ty, pos, after, guard⟩ sl bx ⟨.one (aggP rs), [], []⟩ :=
  RT.pure fun ρ h β bx' H => by
    obtain ⟨hz, fs, e1, e2⟩ := ht
    obtain ⟨us, h1, h2⟩ := fill_ok (ρ := ρ) (β := β) (bx' := bx') hp (fun x hx s hs => H x.2 (by simp [Op.operands]; exact ⟨x.1, hx⟩) s hs) hf (all2_ex hz.2)
    refine ⟨.agg us.toArray, fun w _ => ?_, ⟨us, rfl, h2⟩, trivial⟩
    obtain ⟨z, z1, z2⟩ := run_zeroValue' hz w
    simp only [execOp, Instr.build, Sem.run_bind, z1, Result.andThen_ok, run_underlying e1]
    rw [e2 w]
    simp only [Result.andThen_ok, z2]
    have : (xs.toArray.map fun x => (x.1, ρ x.2)).toList = xs.map fun x => (x.1, ρ x.2) := by simp
    have hpl : (fun (i : Nat) => pl.toArray[i]?) = fun (i : Nat) => pl[i]? := by funext i; simp
    rw [this, hpl, h1]
    rfl
/-- A component of a tuple. -/
theorem rt_extract {x : Operand} {i : Nat} {ps : List Pd} {p : Pd} (hx : osd sl x = some (.one (tupP ps))) (hp : ps[i]? = some p) : RT P En n ⟨dst, .extract x i, ty, pos, after, guard⟩ sl bx ⟨.one p, [], []⟩ :=
  RT.pure fun ρ h β bx' H => by
    obtain ⟨vs, hv, ha⟩ : (tupP ps).p h (ρ x) := (H x (by simp [Op.operands]) _ hx).1
    obtain ⟨v, hv2, hpv⟩ := ha.get hp
    refine ⟨v, fun w _ => ?_, hpv, trivial⟩
    simp only [execOp, hv, Instr.extract]
    simp [hv2]
/-- A call of a function that has a body. -/
def Body (P : Program) (f : FuncId) : Prop := ∃ fn, P.funcs[f]? = some fn ∧ fn.body.isNone = false ∧ (fn.name == "runtime.NumGoroutine") = false
def args (sl : Sl) : List Operand → List Pd → Prop
  | [], [] => True
  | x :: xs, p :: ps => osd sl x = some (.one p) ∧ args sl xs ps
  | _, _ => False
theorem args_ok {ρ : Operand → Value} {h : GH} {β : Nat → Nat} {bx' : Bx} : ∀ {xs : List Operand} {ps : List Pd}, args sl xs ps → (∀ x ∈ xs, ∀ s, osd sl x = some s → s.ok h β (ρ x) ∧ s.live bx') → AllV h ps (xs.map ρ)
  | [], [], _, _ => trivial
  | x :: xs, p :: ps, ⟨a, b⟩, H => ⟨(H x (by simp) _ a).1, args_ok b fun y hy => H y (by simp [hy])⟩
  | [], _ :: _, h, _ => h.elim
  | _ :: _, [], h, _ => h.elim
theorem rt_call {f : FuncId} {xs : List Operand} {ats : Array TypeId} {ps : List Pd} {r : Pd} (hf : Fn P En f ps r) (hb : Body P f) (ha : args sl xs ps) :
    RT P En n ⟨dst, .call ⟨.value (.func f), xs.toArray, ats⟩, ty, pos, after, guard⟩ sl bx ⟨.one r, [], []⟩ := by
  intro sl' bx' h1 _ _ w0 h0 c h β a w Q hi hs
  obtain ⟨fn, hfn, hbody, hname⟩ := hb
  have hargs : AllV h ps (xs.map a.eval) := args_ok ha (fun x hx s hxs => osd_ok hs (by rw [h1 x (by simp [Op.operands, Call.operands, hx])]; exact hxs))
  unfold Oper.wp
  rw [execOp_call_go]
  have hrun : (callFunc f (#[] ++ xs.toArray.map a.eval ++ #[])).run P w = .ok (.enter f (xs.map a.eval).toArray) w := by
    simp only [callFunc, Sem.run_bind, run_program, Result.andThen_ok, hfn, hname, hbody]
    simp
  rw [hrun]
  refine Calls.mono (hf h w _ hi.envNow hi.holds hargs) ?_
  rintro e w' ⟨v, h', rfl, g1, g2, g3, g4, g5⟩
  exact ⟨v, h', β, rfl, hi.call g1 g2 g3 g4, g1, fun _ _ => rfl, g5, trivial⟩
end
end Go.Proofs.YtnhbdldchoepfaaDoor

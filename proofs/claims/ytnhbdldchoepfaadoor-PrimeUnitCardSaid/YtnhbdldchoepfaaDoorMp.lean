/- A box that is written no more; functions that write boxes of their caller's, or hand back a new one. For any program. -/
import Derived.Test.YtnhbdldchoepfaaDoorMk
namespace Go.Proofs.YtnhbdldchoepfaaDoor
open Go.RowKit Limb
/-- A slice of a block whose cells stay as they are. -/
def arrP (ps : List Pd) (o len cap : Nat) : Pd := ⟨fun h v => ∃ B vs cap', v = .slice (some ⟨B, o, none⟩) len cap' ∧ (cap ≤ cap' ∧ cap' ≤ maxLen) ∧ All2 h ps vs ∧ ∀ j u, vs[j]? = some u → h B j = some u,
  fun _ _ _ hl ⟨B, vs, cap', h1, h0, h2, h3⟩ => ⟨B, vs, cap', h1, h0, h2.mono hl, fun j u hu => hl _ _ _ (h3 j u hu)⟩⟩
def pubS (s : Sl) (bx : Bx) (b : Nat) (ps : List Pd) : Sl → Prop
  | [] => True
  | (t, sd) :: l => (((∃ sd', look s t = some sd' ∧ SLe sd' sd) ∧ sd.live bx) ∨ (∃ o len cap p, look s t = some (.own b o len cap) ∧ sd = .one p ∧ PLe (arrP ps o len cap) p)) ∧ pubS s bx b ps l
theorem pubS_get {s : Sl} {bx : Bx} {b : Nat} {ps : List Pd} : ∀ {l : Sl}, pubS s bx b ps l → ∀ {t : Nat} {sd : SD}, look l t = some sd →
    (((∃ sd', look s t = some sd' ∧ SLe sd' sd) ∧ sd.live bx) ∨ (∃ o len cap p, look s t = some (.own b o len cap) ∧ sd = .one p ∧ PLe (arrP ps o len cap) p))
  | [], _, _, _, h => by cases h
  | (k, x) :: l, ⟨h1, h3⟩, t, sd, h => by
    rw [look_cons] at h
    split at h
    · rename_i e; subst e; cases h; exact h1
    · exact pubS_get h3 h
theorem Sub.pub {σ τ : St} (b : Nat) {ps : List Pd} (hb0 : Nat.blt b 1000 = true) (hb : look σ.bx b = some ps) (h1 : pubS σ.sl τ.bx b ps τ.sl) (h2 : subBx σ.bx τ.bx) (h3 : look τ.bx b = none) : Sub σ τ := by
  rintro En n w0 h0 c a w ⟨h, β, hi, hs⟩
  have hb0 : b < 1000 := Nat.le_of_ble_eq_true hb0
  obtain ⟨q1, q2, vs, rest, T, q3, q4⟩ := hi.box b ps hb
  have hle := addB_le (vs := vs) q2
  have hne : ∀ i, look τ.bx i ≠ none → look σ.bx i ≠ none ∧ β i ≠ β b := fun i hi' => by
    obtain ⟨qs, hq⟩ := Option.ne_none_iff_exists'.1 hi'
    obtain ⟨ps', g1, _⟩ := subBx_get h2 hq
    have hi1 : look σ.bx i ≠ none := by rw [g1]; simp
    refine ⟨hi1, fun e => ?_⟩
    have := hi.inj i b hi1 (by rw [hb]; simp) e
    subst this
    exact hi' h3
  refine ⟨addB h (β b) vs, β, ⟨hi.env, fun b' o v e => ?_, hi.le0.trans hle, fun b' o v e e0 => ?_, hi.below, hi.dis, hi.pin, fun i qs hq => ?_, fun i j hi' hj' => hi.inj i j (hne i hi').1 (hne j hj').1⟩, hs.defers, hs.size, fun t sd ht => ?_⟩
  · by_cases hq : b' = β b
    · subst hq
      rw [addB_new] at e
      rw [cell_of_row _ _ o _ T _ q3]
      have hlt := (List.getElem?_eq_some_iff.1 e).1
      simpa [List.getElem?_append_left hlt] using e
    · rw [addB_old hq] at e
      exact hi.holds b' o v e
  · by_cases hq : b' = β b
    · subst hq; exact q1.1 hb0
    · rw [addB_old hq] at e; exact hi.fresh b' o v e e0
  · obtain ⟨ps', g1, g2⟩ := subBx_get h2 hq
    obtain ⟨r1, r2, us, rs, T', r3, r4⟩ := hi.box i ps' g1
    have hn := (hne i (by rw [hq]; simp)).2
    exact ⟨r1, fun o => by rw [addB_old hn]; exact r2 o, us, rs, T', r3, (g2.all r4).mono hle⟩
  · rcases pubS_get h1 ht with ⟨⟨sd', g1, g2⟩, g3⟩ | ⟨o, len, cap, p, g1, rfl, g2⟩
    · obtain ⟨v, r1, r2, _⟩ := hs.slot t sd' g1
      refine ⟨v, r1, ?_, g3⟩
      have hmid : sd.ok h β v := by
        cases sd with
        | one q => cases sd' with
          | one p => exact g2 _ _ r2
          | ptr b o => exact g2.elim
          | own b o l k => exact g2.elim
        | ptr b o => cases sd' with
          | one p => exact g2.elim
          | ptr b' o' => obtain ⟨rfl, rfl⟩ := g2; exact r2
          | own b o l k => exact g2.elim
        | own b o l k => cases sd' with
          | one p => exact g2.elim
          | ptr b' o' => exact g2.elim
          | own b' o' l' k' => obtain ⟨rfl, rfl, rfl, rfl⟩ := g2; exact r2
      exact SD.ok_mono hmid g3 hle (fun _ _ => rfl)
    · obtain ⟨v, r1, r2, _⟩ := hs.slot t _ g1
      obtain ⟨cap', r2, hc⟩ : ∃ cap', v = .slice (some ⟨β b, o, none⟩) len cap' ∧ cap ≤ cap' ∧ cap' ≤ maxLen := r2
      exact ⟨v, r1, g2 _ _ ⟨β b, vs, cap', r2, hc, q4.mono hle, fun j u hu => by rw [addB_new]; exact hu⟩, trivial⟩
theorem all2_lb {h : GH} : ∀ {l : List Nat} {vs : List Value}, All2 h (l.map lb) vs → vs = l.map fun (y : Nat) => Value.int .u32 (y : Int)
  | [], [], _ => rfl
  | x :: l, v :: vs, ⟨a, _, c⟩ => by have : v = .int .u32 (x : Int) := a; rw [this, all2_lb c]; rfl
  | [], _ :: _, h => h.elim
  | _ :: _, [], h => h.elim
theorem arr_mag {l : List Nat} {o len cap : Nat} (hl : o + len ≤ l.length) (hc : len ≤ cap) (hlm : Lm l) {m : List Nat} (he : (l.drop o).take len = m) : PLe (arrP (l.map lb) o len cap) (mag m) := by
  subst he
  rintro h v ⟨B, vs, cap', h1, ⟨hcc, hm⟩, h2, h3⟩
  have hlen : ((l.drop o).take len).length = len := by simp; omega
  rw [all2_lb h2] at h3
  refine ⟨⟨some ⟨B, o, none⟩, cap', by rw [hlen]; exact h1, by omega, ⟨hm, fun h => by cases h⟩, fun _ => ⟨B, o, rfl, fun j x hx => ?_⟩⟩, (hlm.drop o).take len⟩
  refine h3 (o + j) _ ?_
  rw [List.getElem?_take] at hx
  split at hx
  · rw [List.getElem?_drop] at hx; rw [List.getElem?_map, hx]; rfl
  · cases hx
theorem arr_mag0 {l : List Nat} {cap : Nat} (hc : l.length ≤ cap) (hlm : Lm l) : PLe (arrP (l.map lb) 0 l.length cap) (mag l) := arr_mag (by omega) hc hlm (by simp)
/-! ### Functions that are handed boxes -/
structure BoxesOK (h : GH) (β : Nat → Nat) (bx : Bx) (w : World) : Prop where
  box : ∀ i ps, look bx i = some ps → (∀ o, h (β i) o = none) ∧ ∃ (vs rest : List Value) (T : TypeId), w.heap[β i]? = some (.cells (vs ++ rest).toArray T (0, 0)) ∧ All2 h ps vs
  inj : ∀ i j, look bx i ≠ none → look bx j ≠ none → β i = β j → i = j
def AllS (h : GH) (β : Nat → Nat) (bx : Bx) : List SD → List Value → Prop
  | [], [] => True
  | s :: ss, v :: vs => s.ok h β v ∧ s.live bx ∧ AllS h β bx ss vs
  | _, _ => False
theorem AllS.length {h : GH} {β : Nat → Nat} {bx : Bx} : ∀ {ss : List SD} {vs : List Value}, AllS h β bx ss vs → ss.length = vs.length
  | [], [], _ => rfl
  | _ :: _, _ :: _, ⟨_, _, c⟩ => by simp [AllS.length c]
  | [], _ :: _, h => h.elim
  | _ :: _, [], h => h.elim
def GPost (h : GH) (β : Nat → Nat) (bx : Bx) (w : World) (r : SD) (bx' : Bx) (e : Ending) (w' : World) : Prop :=
  ∃ v h' β', e = .returned v ∧ Le h h' ∧ Holds h' w' ∧ (∀ b o u, h' b o = some u → h b o = none → w.heap.size ≤ b) ∧ BelowM (fun k => ∃ i, look bx i ≠ none ∧ k = β i) w w' ∧ BoxesOK h' β' bx' w' ∧
    (∀ i, 1000 ≤ i → β' i = β i) ∧ (∀ i, look bx' i ≠ none → i < 1000 → w.heap.size ≤ β' i) ∧ r.ok h' β' v ∧ r.live bx'
def FnG (P : Program) (En : Ev) (f : FuncId) (as : List SD) (bx : Bx) (r : SD) (bx' : Bx) : Prop :=
  ∀ (h : GH) (β : Nat → Nat) (w : World) (vs : List Value), En.e w → Holds h w → BoxesOK h β bx w → (∀ i, look bx i ≠ none → 1000 ≤ i ∧ ¬ En.S (β i)) → AllS h β bx as vs → Calls P f vs.toArray w (GPost h β bx w r bx')
def argS : List SD → Nat → Sl
  | [], _ => []
  | p :: ps, k => (k, p) :: argS ps (k + 1)
theorem argS_get {h : GH} {β : Nat → Nat} {bx : Bx} : ∀ {ps : List SD} {vs : List Value} {k t : Nat} {sd : SD}, AllS h β bx ps vs → look (argS ps k) t = some sd → ∃ v, k ≤ t ∧ vs[t - k]? = some v ∧ sd.ok h β v ∧ sd.live bx
  | [], _, _, _, _, _, h => by cases h
  | p :: ps, v :: vs, k, t, sd, ⟨a, a', b⟩, h => by
    unfold argS at h
    rw [look_cons] at h
    split at h
    · rename_i e; subst e; cases h; exact ⟨v, Nat.le_refl _, by simp, a, a'⟩
    · obtain ⟨u, h1, h2, h3⟩ := argS_get b h
      refine ⟨u, by omega, ?_, h3⟩
      rw [show t - k = (t - (k + 1)) + 1 by omega]
      simpa using h2
  | _ :: _, [], _, _, _, h, _ => h.elim
def RetG (P : Program) (fn : Func) (σ : St) (r : SD) (bx' : Bx) : Prop :=
  subBx σ.bx bx' ∧ ∀ En n w0 h0 c h β a w, Inv En w0 h0 c h β σ.bx w → Slots n h β σ.sl σ.bx a → ∃ v, (results fn a.tmps).run P w = .ok v w ∧ r.ok h β v ∧ r.live bx'
def kFnG (P : Program) (fn : Func) (r : SD) (bx' : Bx) : Exit → St → Prop
  | .normal, σ => RetG P fn σ r bx'
  | .ret, σ => RetG P fn σ r bx'
  | .exit _, _ => False
  | .goto _, _ => False
  | .panic _, _ => False
  | .outgrown, _ => False
theorem fn_of_bodyG {P : Program} {En : Ev} {f : FuncId} {fn : Func} {co : Code} {n : Nat} {as : List SD} {bx : Bx} {r : SD} {bx' : Bx} (hf : P.funcs[f]? = some fn) (hb : fn.body = some co) (hn : fn.ntmps = n) (hl : Nat.ble as.length n = true)
    (H : ∀ w0 h0 c, WpD P En n w0 h0 c co (kFnG P fn r bx') ⟨argS as 0, bx⟩) : FnG P En f as bx r bx' := by
  subst hn
  intro h β w vs hen hh hbx hS hv
  refine calls_of_wp hf hb ?_
  have hle : vs.length ≤ fn.ntmps := by rw [← hv.length]; exact Nat.le_of_ble_eq_true hl
  refine H w h ⟨fun k => ∃ i, look bx i ≠ none ∧ k = β i, β⟩ _ _ w ⟨h, β, ⟨hen, hh, Le.refl _, fun b o v e e0 => (by rw [e] at e0; cases e0), BelowM.refl _ _, ?_, fun _ _ => rfl, fun i ps hp => ?_, hbx.inj⟩, rfl, ?_, fun t sd ht => ?_⟩ ?_
  · rintro k ⟨i, hi, rfl⟩; exact (hS i hi).2
  · have hi : look bx i ≠ none := by rw [hp]; simp
    obtain ⟨g1, g2⟩ := hbx.box i ps hp
    exact ⟨⟨fun hlt => absurd (hS i hi).1 (by omega), fun _ => ⟨i, hi, rfl⟩⟩, g1, g2⟩
  · simp; omega
  · obtain ⟨v, _, h2, h3, h4⟩ := argS_get hv ht
    have h2' : vs[t]? = some v := by simpa using h2
    have hlt := (List.getElem?_eq_some_iff.1 h2').1
    refine ⟨v, ?_, h3, h4⟩
    rw [Array.getElem?_append_left (by simpa using hlt)]
    simpa using h2'
  · intro e τ a' w' hk hg
    have fin : RetG P fn τ r bx' → a'.defers = [] ∧ ∃ v, (results fn a'.tmps).run P w' = .ok v w' ∧ GPost h β bx w r bx' (.returned v) w' := fun hR => by
      obtain ⟨h', β', hi, hs⟩ := hg
      obtain ⟨hsub, hR⟩ := hR
      obtain ⟨v, h1, h2, h3⟩ := hR _ _ _ _ _ _ _ _ _ hi hs
      refine ⟨hs.defers, v, h1, v, h', β', rfl, hi.le0, hi.holds, hi.fresh, hi.below, ⟨fun i ps hp => ?_, fun i j hi' hj' => hi.inj i j ?_ ?_⟩, hi.pin, fun i hi' hlt => ?_, h2, h3⟩
      · obtain ⟨ps', g1, g2⟩ := subBx_get hsub hp
        obtain ⟨_, r2, us, rs, T', r3, r4⟩ := hi.box i ps' g1
        exact ⟨r2, us, rs, T', r3, g2.all r4⟩
      · obtain ⟨ps, hp⟩ := Option.ne_none_iff_exists'.1 hi'
        obtain ⟨ps', g1, _⟩ := subBx_get hsub hp
        rw [g1]; simp
      · obtain ⟨ps, hp⟩ := Option.ne_none_iff_exists'.1 hj'
        obtain ⟨ps', g1, _⟩ := subBx_get hsub hp
        rw [g1]; simp
      · obtain ⟨ps, hp⟩ := Option.ne_none_iff_exists'.1 hi'
        obtain ⟨ps', g1, _⟩ := subBx_get hsub hp
        exact (hi.box i ps' g1).1.1 hlt
    cases e with
    | normal => exact fin hk
    | ret => exact fin hk
    | exit i => exact hk.elim
    | goto i => exact hk.elim
    | panic i => exact hk.elim
    | outgrown => exact hk.elim
theorem retG1 {P : Program} {fn : Func} {σ : St} {r : SD} {bx' : Bx} {t : Nat} {sd : SD} (hf : fn.results = #[.tmp t]) (h1 : look σ.sl t = some sd) (hr : SLe sd r) (hl : r.live bx') (hs : subBx σ.bx bx') : RetG P fn σ r bx' := by
  refine ⟨hs, fun En n w0 h0 c h β a w hi hsl => ?_⟩
  obtain ⟨v, hv, ho, _⟩ := hsl.slot t sd h1
  refine ⟨v, by rw [results_eq, hf]; simp [rvSem, hv], ?_, hl⟩
  cases r with
  | one q => cases sd with
    | one p => exact hr _ _ ho
    | ptr b o => exact hr.elim
    | own b o l k => exact hr.elim
  | ptr b o => cases sd with
    | one p => exact hr.elim
    | ptr b' o' => obtain ⟨rfl, rfl⟩ := hr; exact ho
    | own b o l k => exact hr.elim
  | own b o l k => cases sd with
    | one p => exact hr.elim
    | ptr b' o' => exact hr.elim
    | own b' o' l' k' => obtain ⟨rfl, rfl, rfl, rfl⟩ := hr; exact ho
theorem retG0 {P : Program} {fn : Func} {σ : St} {bx' : Bx} (hf : fn.results = #[]) (hs : subBx σ.bx bx') : RetG P fn σ (.one (ex (.tuple #[]))) bx' :=
  ⟨hs, fun _ _ _ _ _ _ _ _ _ _ _ => ⟨.tuple #[], by rw [results_eq, hf]; simp, rfl, trivial⟩⟩
section
variable {P : Program} {En : Ev} {n : Nat} {sl : Sl} {bx : Bx} {dst : Option Tmp} {ty : TypeId} {pos : String} {after : Array Edge} {guard : Option (Nat × Bool)}
/-- An argument of a call that is handed one box: its number is 1000 there, b here. -/
def argM (sl : Sl) (b : Nat) (x : Operand) : SD → Prop
  | .one p => osd sl x = some (.one p)
  | .ptr i o => i = 1000 ∧ osd sl x = some (.ptr b o)
  | .own i o l k => i = 1000 ∧ osd sl x = some (.own b o l k)
def argsM (sl : Sl) (b : Nat) : List Operand → List SD → Prop
  | [], [] => True
  | x :: xs, s :: ss => argM sl b x s ∧ argsM sl b xs ss
  | _, _ => False
theorem run_callFn {f : FuncId} (hb : Body P f) (vs : List Value) (w : World) : (callFunc f (#[] ++ vs.toArray ++ #[])).run P w = .ok (.enter f vs.toArray) w := by
  obtain ⟨fn, hfn, hbody, hname⟩ := hb
  simp only [callFunc, Sem.run_bind, run_program, Result.andThen_ok, hfn, hname, hbody]
  simp
theorem ru_callM {f : FuncId} {xs : List Operand} {ats : Array TypeId} {as : List SD} {ps ps' : List Pd} {r : Pd} {b : Nat} [hb : CBody P f] (hf : FnG P En f as [(1000, ps)] (.one r) [(1000, ps')]) (ha : argsM sl b xs as) (hlk : look bx b = some ps) :
    RT P En n ⟨dst, .call ⟨.value (.func f), xs.toArray, ats⟩, ty, pos, after, guard⟩ sl bx ⟨.one r, [b], [(b, ps')]⟩ := by
  intro sl' bx' h1 h2 _ w0 h0 c h β a w Q hi hs
  have hlk' : look bx' b = some ps := by rw [h2 b (by simp)]; exact hlk
  obtain ⟨q1, q2, vs0, rs0, T0, q3, q4⟩ := hi.box b ps hlk'
  have hbn : look bx' b ≠ none := by rw [hlk']; simp
  have one : ∀ i, look ([(1000, ps)] : Bx) i ≠ none → i = 1000 := fun i hi => by
    rw [look_cons] at hi
    by_cases e : 1000 = i
    · exact e.symm
    · rw [if_neg e] at hi; exact absurd rfl hi
  have oneS : ∀ i qs, look ([(1000, ps)] : Bx) i = some qs → i = 1000 ∧ qs = ps := fun i qs hq => by
    have := one i (by rw [hq]; simp)
    subst this
    exact ⟨rfl, by have : some ps = some qs := hq; exact (Option.some.inj this).symm⟩
  let γ : Nat → Nat := fun i => if i = 1000 then β b else 0
  have hγ : γ 1000 = β b := rfl
  have hlive : ∀ o, SD.live [(1000, ps)] (.ptr 1000 o) := fun o => by show look _ 1000 ≠ none; rw [look_cons, if_pos rfl]; simp
  have hargs : ∀ (xs : List Operand) (as : List SD), (∀ x ∈ xs, osd sl' x = osd sl x) → argsM sl b xs as → AllS h γ [(1000, ps)] as (xs.map a.eval) := by
    intro xs
    induction xs with
    | nil => intro as _ h; cases as with
      | nil => trivial
      | cons => exact h.elim
    | cons x xs ih =>
      intro as hx h
      cases as with
      | nil => exact h.elim
      | cons s ss =>
        obtain ⟨e1, e2⟩ := h
        have hxx := hx x (by simp)
        refine ⟨?_, ?_, ih ss (fun y hy => hx y (by simp [hy])) e2⟩
        · cases s with
          | one p => exact (osd_ok hs (x := x) (sd := .one p) (by rw [hxx]; exact e1)).1
          | ptr i o => obtain ⟨rfl, e1⟩ := e1; exact (osd_ok hs (x := x) (sd := .ptr b o) (by rw [hxx]; exact e1)).1
          | own i o l k => obtain ⟨rfl, e1⟩ := e1; exact (osd_ok hs (x := x) (sd := .own b o l k) (by rw [hxx]; exact e1)).1
        · cases s with
          | one p => trivial
          | ptr i o => obtain ⟨rfl, e1⟩ := e1; exact hlive o
          | own i o l k => obtain ⟨rfl, e1⟩ := e1; exact hlive o
  have hS : ∀ k, En.S k → k < w0.heap.size := fun k hk => En.lt _ hi.env k hk
  have hnS : ¬ En.S (β b) := fun hk => by
    rcases Nat.lt_or_ge b 1000 with hb1 | hb1
    · have := q1.1 hb1; have := hS _ hk; omega
    · exact hi.dis _ (q1.2 hb1) hk
  unfold Oper.wp
  rw [execOp_call_go]
  rw [show xs.toArray.map a.eval = (xs.map a.eval).toArray by simp, run_callFn hb.ok]
  refine Calls.mono (hf h γ w _ hi.envNow hi.holds ⟨fun i qs hq => ?_, fun i j hi' hj' _ => by rw [one i hi', one j hj']⟩ (fun i hi' => by rw [one i hi']; exact ⟨Nat.le_refl _, hnS⟩) (hargs xs as (fun x hx => h1 x (by simp [Op.operands, Call.operands, hx])) ha)) ?_
  · obtain ⟨rfl, rfl⟩ := oneS i qs hq
    exact ⟨q2, vs0, rs0, T0, q3, q4⟩
  · rintro e w' ⟨v, h', β', rfl, g1, g2, g3, g4, g5, g6, _, g7, _⟩
    have hβ' : β' 1000 = β b := g6 1000 (Nat.le_refl _)
    have hblk : ∀ k, k < w.heap.size → k ≠ β b → w'.heap[k]? = w.heap[k]? := fun k hk hne => g4.block k hk (by rintro ⟨i, hi', rfl⟩; rw [one i hi'] at hne; exact hne rfl)
    refine ⟨v, h', β, rfl, ⟨hi.env, g2, hi.le0.trans g1, fun b' o u e e0 => ?_, ⟨g4.os.trans hi.below.os, g4.tape.trans hi.below.tape, g4.output.trans hi.below.output, Nat.le_trans hi.below.size g4.size, fun k hk hM => ?_⟩, hi.dis, hi.pin, fun j qs hj => ?_, fun i j hi' hj' => hi.inj i j ?_ ?_⟩, g1, fun _ _ => rfl, g7, trivial⟩
    · cases he : h b' o with
      | none => exact Nat.le_trans hi.below.size (g3 b' o u e he)
      | some u' => exact hi.fresh b' o u' he e0
    · rw [hblk k (Nat.lt_of_lt_of_le hk hi.below.size) ?_]
      · exact hi.below.block k hk hM
      · rintro rfl
        rcases Nat.lt_or_ge b 1000 with hb1 | hb1
        · have := q1.1 hb1; omega
        · exact hM (q1.2 hb1)
    · rw [List.singleton_append, look_cons] at hj
      by_cases e : b = j
      · subst e
        rw [if_pos rfl] at hj
        cases hj
        obtain ⟨r1, us, rs, T', r2, r3⟩ := g5.box 1000 ps' (by rw [look_cons, if_pos rfl])
        rw [hβ'] at r1 r2
        exact ⟨q1, r1, us, rs, T', r2, r3⟩
      · rw [if_neg e] at hj
        obtain ⟨r0, r1, us, rs, T', r2, r3⟩ := hi.box j qs hj
        have hne : β j ≠ β b := fun hh => e (hi.inj b j hbn (by rw [hj]; simp) hh.symm)
        refine ⟨r0, fun o => ?_, us, rs, T', by rw [hblk _ (block_lt r2) hne]; exact r2, r3.mono g1⟩
        cases he : h' (β j) o with
        | none => rfl
        | some u =>
          have := g3 _ _ _ he (r1 o)
          have := block_lt r2
          omega
    · rw [List.singleton_append, look_cons] at hi'
      by_cases e : b = i
      · subst e; exact hbn
      · rwa [if_neg e] at hi'
    · rw [List.singleton_append, look_cons] at hj'
      by_cases e : b = j
      · subst e; exact hbn
      · rwa [if_neg e] at hj'
/-- A call that hands back a new box. -/
theorem ru_callO {f : FuncId} {xs : List Operand} {ats : Array TypeId} {as : List Pd} {qs : List Pd} {k o len cap d : Nat} [hb : CBody P f] (hf : FnG P En f (as.map .one) [] (.own k o len cap) [(k, qs)]) (hk : Nat.blt k 1000 = true) (ha : args sl xs as) (hd : Nat.blt d 1000 = true) (hn : look bx d = none) :
    RT P En n ⟨some d, .call ⟨.value (.func f), xs.toArray, ats⟩, ty, pos, after, guard⟩ sl bx ⟨.own d o len cap, [], [(d, qs)]⟩ := by
  intro sl' bx' h1 _ h3 w0 h0 c h β a w Q hi hs
  have hd : d < 1000 := Nat.le_of_ble_eq_true hd
  have hn' : look bx' d = none := by rw [h3 d (by simp)]; exact hn
  have none0 : ∀ i, look ([] : Bx) i ≠ none → False := fun i hi => hi rfl
  have hargs : AllV h as (xs.map a.eval) := args_ok ha (fun x hx s hxs => osd_ok hs (by rw [h1 x (by simp [Op.operands, Call.operands, hx])]; exact hxs))
  have hargs' : ∀ (as : List Pd) (vs : List Value), AllV h as vs → AllS h β [] (as.map .one) vs := by
    intro as
    induction as with
    | nil => intro vs h; cases vs with
      | nil => trivial
      | cons => exact h.elim
    | cons p ps ih => intro vs h; cases vs with
      | nil => exact h.elim
      | cons v vs => exact ⟨h.1, trivial, ih vs h.2⟩
  unfold Oper.wp
  rw [execOp_call_go]
  rw [show xs.toArray.map a.eval = (xs.map a.eval).toArray by simp, run_callFn hb.ok]
  refine Calls.mono (hf h β w _ hi.envNow hi.holds ⟨fun i qs hq => (by cases hq), fun i j hi' => (none0 i hi').elim⟩ (fun i hi' => (none0 i hi').elim) (hargs' _ _ hargs)) ?_
  rintro e w' ⟨v, h', β', rfl, g1, g2, g3, g4, g5, g6, g8, g7, _⟩
  have hbel : Below w.heap.size w w' := ⟨g4.os, g4.tape, g4.output, g4.size, fun k hk => g4.block k hk (by rintro ⟨i, hi', _⟩; exact none0 i hi')⟩
  have hI := hi.call g1 g2 g3 hbel
  obtain ⟨r1, us, rs, T', r2, r3⟩ := g5.box k qs (by rw [look_cons, if_pos rfl])
  have hnew : w.heap.size ≤ β' k := g8 k (by rw [look_cons, if_pos rfl]; simp) (Nat.le_of_ble_eq_true hk)
  have hlt : ∀ j, look bx' j ≠ none → β j < w.heap.size := fun j hj => by
    obtain ⟨qs, hq⟩ := Option.ne_none_iff_exists'.1 hj
    obtain ⟨_, _, us, rs, T', h3, _⟩ := hi.box j qs hq
    exact block_lt h3
  refine ⟨v, h', upd β d (β' k), rfl, ⟨hI.env, hI.holds, hI.le0, hI.fresh, hI.below, hI.dis, fun j hj => ?_, fun j ps hj => ?_, fun i j hi' hj' e => ?_⟩, g1, fun j hj => upd_old (by rintro rfl; exact hj hn'), ?_, ?_⟩
  · rw [upd_old (by omega)]; exact hI.pin j hj
  · rw [List.singleton_append, look_cons] at hj
    by_cases e : d = j
    · subst e
      rw [if_pos rfl] at hj
      cases hj
      rw [upd_new]
      exact ⟨⟨fun _ => Nat.le_trans hi.below.size hnew, fun h => absurd hd (by omega)⟩, r1, us, rs, T', r2, r3⟩
    · rw [if_neg e] at hj
      rw [upd_old (fun h => e (Eq.symm h))]
      exact hI.box j ps hj
  · rw [List.singleton_append, look_cons] at hi' hj'
    by_cases e1 : d = i <;> by_cases e2 : d = j
    · rw [← e1, ← e2]
    · subst e1
      rw [upd_new, upd_old (fun h => e2 (Eq.symm h))] at e
      rw [if_neg e2] at hj'
      have := hlt j hj'
      omega
    · subst e2
      rw [upd_new, upd_old (fun h => e1 (Eq.symm h))] at e
      rw [if_neg e1] at hi'
      have := hlt i hi'
      omega
    · rw [upd_old (fun h => e1 (Eq.symm h)), upd_old (fun h => e2 (Eq.symm h))] at e
      rw [if_neg e1] at hi'
      rw [if_neg e2] at hj'
      exact hI.inj i j hi' hj' e
  · obtain ⟨cap', g7, hc⟩ : ∃ cap', v = .slice (some ⟨β' k, o, none⟩) len cap' ∧ cap ≤ cap' ∧ cap' ≤ maxLen := g7
    exact ⟨cap', by rw [upd_new]; exact g7, hc⟩
  · show look ((d, qs) :: bx') d ≠ none
    rw [look_cons, if_pos rfl]; simp
end
end Go.Proofs.YtnhbdldchoepfaaDoor

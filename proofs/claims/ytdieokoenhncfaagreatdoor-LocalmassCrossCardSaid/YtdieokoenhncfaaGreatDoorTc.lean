/- Regions whose operations run in the text's order, step by step; slices that lie in a struct's field and grow. For any program. -/
import Derived.Test.YtdieokoenhncfaaGreatDoorQ
set_option maxRecDepth 3000
namespace Go.Proofs.YtdieokoenhncfaaGreatDoor
open Go.RowKit Limb
def WpS (P : Program) (En : Ev) (n : Nat) (w0 : World) (h0 : GH) (c : Cx) (ops : Array Oper) (l : List Nat) (K : St → Prop) (σ : St) : Prop :=
 ∀ (Q : Exit → Act → World → Prop) (a : Act) (w : World), Gam En n w0 h0 c σ a w → (∀ τ a' w', K τ → Gam En n w0 h0 c τ a' w' → Q .normal a' w') → wpOps P ops Q l a w
section
variable {P : Program} {En : Ev} {n : Nat} {w0 : World} {h0 : GH} {c : Cx} {ops : Array Oper} {l : List Nat} {σ τ : St}
theorem WpD.seqR {id : Nat} {K : Exit → St → Prop} (h : WpS P En n w0 h0 c ops (List.range ops.size) (K .normal) σ) : WpD P En n w0 h0 c (.region id ops false) K σ :=
 fun Q a w hg hQ => wp_region (h Q a w hg fun τ a' w' hk hg' => hQ .normal τ a' w' hk hg')
variable {K : St → Prop}
theorem WpS.nil (h : K σ) : WpS P En n w0 h0 c ops [] K σ := fun _ a w hg hQ => hQ σ a w h hg
theorem WpS.cons {i : Nat} {o : Oper} {e : Eff} (hi : ops[i]? = some o) (hd : ∀ d, o.dst = some d → d < n) (h : LT P En n ops o σ.sl σ.bx e) (t : WpS P En n w0 h0 c ops l K (upd1 σ o e)) : WpS P En n w0 h0 c ops (i :: l) K σ := by
 intro Q a w hg hQ
 obtain ⟨h', β, hinv, hslots⟩ := hg
 rw [wpOps_cons]
 unfold wpOp
 rw [hi]
 refine h σ.sl σ.bx (fun _ _ => rfl) (fun _ _ => rfl) (fun _ _ => rfl) w0 h0 c h' β a w Q hinv hslots _ (fun a' w' hh => ?_)
 obtain ⟨v, h'', β', rfl, q1, q2, q3, q4, q5⟩ := hh
 exact t Q _ _ (dZN hd hslots q1 q2 q3 q4 q5) hQ
theorem WpS.sub (hs : Sub σ τ) (h : WpS P En n w0 h0 c ops l K τ) : WpS P En n w0 h0 c ops l K σ := fun Q a w hg hQ => h Q a w (hs _ _ _ _ _ _ _ hg) hQ
theorem kZK {h : GH} {β : Nat → Nat} {a : Act} (hs : Slots n h β σ.sl σ.bx a) {t : Nat} (ht : t < n) : ∃ v, a.tmps[t]? = some v := by
 have : t < a.tmps.size := by rw [hs.size]; exact ht
 exact ⟨_, Array.getElem?_eq_getElem this⟩
theorem cZX {h : GH} {β : Nat → Nat} {a : Act} {t b : Nat} (hs : Slots n h β σ.sl σ.bx a) (ht : t < n) (hb : look σ.bx b ≠ none) : Slots n h β ((t, .pin b (β b)) :: σ.sl) σ.bx a := by
 refine ⟨hs.defers, hs.size, fun t' sd h' => ?_⟩
 rw [aZi] at h'
 split at h'
 ·rename_i e
  subst e
  cases h'
  obtain ⟨v, hv⟩ := kZK hs ht
  exact ⟨v, hv, rfl, hb⟩
 ·exact hs.slot t' sd h'
theorem WpD.pin {co : Code} {K : Exit → St → Prop} {t b : Nat} (ht : Nat.blt t n = true) (hb : look σ.bx b ≠ none) (h : ∀ x, WpD P En n w0 h0 c co K ⟨(t, .pin b x) :: σ.sl, σ.bx⟩) : WpD P En n w0 h0 c co K σ := by
 rintro Q a w ⟨h', β, hi, hs⟩ hQ
 exact h (β b) Q a w ⟨h', β, hi, cZX hs (Nat.le_of_ble_eq_true ht) hb⟩ hQ
def gvl (blk len cap : Nat) : Value := match len with
 | 0 => .slice none 0 0
 | len + 1 => .slice (some ⟨blk, 0, none⟩) (len + 1) cap
theorem Sub.toApp {t p q b k len cap blk x : Nat} (h1 : look σ.sl t = some (.one (ex (gvl blk len cap)))) (h2 : look σ.sl p = some (.pin b blk)) (h3 : look σ.sl q = some (.pin (b + 250) x)) (h4 : 0 < len → len ≤ cap ∧ cap ≤ maxLen ∧ x = cap * k) : Sub σ ⟨(t, .app b k len) :: σ.sl, σ.bx⟩ := by
 rintro En n w0 h0 c a w ⟨h, β, hi, hs⟩
 obtain ⟨v, r1, r2, _⟩ := hs.slot t _ h1
 obtain ⟨_, _, r3, l3⟩ := hs.slot p _ h2
 obtain ⟨_, _, r4, l4⟩ := hs.slot q _ h3
 have r2 : v = gvl blk len cap := r2
 have r3 : β b = blk := r3
 have r4 : β (b + 250) = x := r4
 refine ⟨h, β, hi, hs.defers, hs.size, fun t' sd ht => ?_⟩
 rw [aZi] at ht
 split at ht
 ·rename_i e
  subst e
  cases ht
  refine ⟨v, r1, ?_, l3, l4⟩
  cases len with
  | zero => exact .inl ⟨r2, rfl⟩
  | succ len =>
   obtain ⟨g1, g2, g3⟩ := h4 (by omega)
   exact .inr ⟨cap, by rw [r3]; exact r2, by omega, g1, g2, by rw [r4]; exact g3.symm⟩
 ·exact hs.slot t' sd ht
theorem WpS.fromApp {t p q b k len : Nat} (hp : Nat.blt p n = true) (hq : Nat.blt q n = true) (h1 : look σ.sl t = some (.app b k len)) (hlen : 0 < len)
  (h : ∀ blk cap x, (len ≤ cap ∧ cap ≤ maxLen ∧ x = cap * k) → WpS P En n w0 h0 c ops l K ⟨(t, .one (ex (gvl blk len cap))) :: (p, .pin b blk) :: (q, .pin (b + 250) x) :: σ.sl, σ.bx⟩) : WpS P En n w0 h0 c ops l K σ := by
 rintro Q a w ⟨h', β, hi, hs⟩ hQ
 obtain ⟨v, r1, r2, l1, l2⟩ := hs.slot t _ h1
 rcases r2 with ⟨_, e0⟩ | ⟨cap, e1, e2, e3, e4, e5⟩
 ·omega
 have s1 := cZX hs (Nat.le_of_ble_eq_true hq) l2
 have s2 := cZX (σ := ⟨(q, .pin (b + 250) (β (b + 250))) :: σ.sl, σ.bx⟩) (t := p) s1 (Nat.le_of_ble_eq_true hp) l1
 refine h (β b) cap (β (b + 250)) ⟨e3, e4, e5.symm⟩ Q a w ⟨h', β, hi, hs.defers, hs.size, fun t' sd ht => ?_⟩ hQ
 rw [aZi] at ht
 split at ht
 ·rename_i e
  subst e
  cases ht
  refine ⟨v, r1, ?_, trivial⟩
  show v = gvl (β b) len cap
  cases len with
  | zero => omega
  | succ len => exact e1
 ·exact s2.slot t' sd ht
theorem Sub.pubCell {b d p k len cap blk : Nat} {p0 : Pd} {ps : List Pd} {sl : Sl} {bx0 : Bx} (hb0 : Nat.blt b 1000 = true) (hb : look σ.bx b = some ps) (hlen : ps.length = len * k) (hd : look bx0 d = some [p0, ex (gvl blk len cap)]) (hp : look σ.sl p = some (.pin b blk)) (hl0 : 0 < len) (hlc : len ≤ cap) (hcm : cap ≤ maxLen)
  (h2 : cZF σ.bx bx0) (h3 : look bx0 b = none) (h1 : dZu σ.sl ((d, [p0, slc k ps len]) :: bx0) sl) : Sub σ ⟨sl, (d, [p0, slc k ps len]) :: bx0⟩ := by
 rintro En n w0 h0 c a w ⟨h, β, hi, hs⟩
 have hb0 : b < 1000 := Nat.le_of_ble_eq_true hb0
 obtain ⟨h', vs, hi', hle, hall, hcell⟩ := hi.pub b hb0 hb h2 h3
 obtain ⟨_, _, r3, _⟩ := hs.slot p _ hp
 have r3 : β b = blk := r3
 have hslc : (slc k ps len).p h' (gvl blk len cap) := by
  cases len with
  | zero => omega
  | succ len => exact ⟨some ⟨blk, 0, none⟩, cap, rfl, hlc, hcm, (fun h => by cases h), hlen, fun _ => ⟨blk, 0, vs, rfl, hall, fun j u hu => by rw [Nat.zero_add, ← r3]; exact hcell j u hu⟩⟩
 refine ⟨h', β, ⟨hi'.env, hi'.holds, hi'.le0, hi'.fresh, hi'.below, hi'.dis, hi'.pin, fun i qs hq hqs => ?_, fun i j qs rs a1 a2 b1 b2 => ?_⟩, hs.defers, hs.size, fun t sd ht => ?_⟩
 ·have hq2 : look ((d, [p0, slc k ps len]) :: bx0) i = some qs := hq
  by_cases e : d = i
  ·subst e
   rw [aZi, if_pos rfl] at hq2
   have hqe := Option.some.inj hq2
   rw [← hqe]
   obtain ⟨r1, r2, us, rest, T, r3', r4, r5⟩ := hi'.box _ _ hd (by simp)
   refine ⟨r1, r2, us, rest, T, r3', ?_, r5⟩
   match us, r4 with
   | [u0, u1], ⟨g1, g2, g3, g4, g5⟩ =>
    have g3 : u1 = gvl blk len cap := g3
    exact ⟨g1, g2, by rw [g3]; exact hslc, g4, trivial⟩
  ·rw [aZi, if_neg e] at hq2
   exact hi'.box i qs hq2 hqs
 ·have hne : ∀ i qs, look ((d, [p0, slc k ps len]) :: bx0) i = some qs → qs ≠ [] → ∃ qs', look bx0 i = some qs' ∧ qs' ≠ [] := fun i qs hq hqs => by
   rw [aZi] at hq
   split at hq
   ·rename_i e
    subst e
    exact ⟨_, hd, by simp⟩
   ·exact ⟨qs, hq, hqs⟩
  obtain ⟨q1, e1, f1⟩ := hne i qs a1 a2
  obtain ⟨q2, e2, f2⟩ := hne j rs b1 b2
  exact hi'.inj i j _ _ e1 f1 e2 f2
 ·obtain ⟨⟨sd', g1, g2⟩, g3⟩ := cZU h1 ht
  obtain ⟨v, r1, r2, _⟩ := hs.slot t sd' g1
  exact ⟨v, r1, SD.ok_mono (g2.ok r2) g3 hle (fun _ _ => rfl), g3⟩
section
variable {sl : Sl} {bx : Bx}
theorem WpS.S {i d : Nat} {op : Op} {ty : TypeId} {pos : String} {after : Array Edge} {sd : SD} {rb : List Nat} {wb bx' : Bx} (hi : ops[i]? = some ⟨some d, op, ty, pos, after, none⟩) (hd : Nat.blt d n = true) (h : RT P En n ⟨some d, op, ty, pos, after, none⟩ sl bx ⟨sd, rb, wb⟩) (hb : wb ++ bx = bx') (t : WpS P En n w0 h0 c ops l K ⟨(d, sd) :: sl, bx'⟩) : WpS P En n w0 h0 c ops (i :: l) K ⟨sl, bx⟩ := by
 subst hb
 exact WpS.cons (σ := ⟨sl, bx⟩) hi (fun d' h' => by cases h'; exact Nat.le_of_ble_eq_true hd) (LT.plain rfl h) t
theorem WpS.N {i : Nat} {op : Op} {ty : TypeId} {pos : String} {after : Array Edge} {sd : SD} {rb : List Nat} {wb bx' : Bx} (hi : ops[i]? = some ⟨none, op, ty, pos, after, none⟩) (h : RT P En n ⟨none, op, ty, pos, after, none⟩ sl bx ⟨sd, rb, wb⟩) (hb : wb ++ bx = bx') (t : WpS P En n w0 h0 c ops l K ⟨sl, bx'⟩) : WpS P En n w0 h0 c ops (i :: l) K ⟨sl, bx⟩ := by
 subst hb
 exact WpS.cons (σ := ⟨sl, bx⟩) hi (fun d' h' => by cases h') (LT.plain rfl h) t
end
end
instance (blk len cap : Nat) : C1 (ex (gvl blk len cap)) := ⟨fun _ _ h => by rw [h]; cases len <;> rfl⟩
end Go.Proofs.YtdieokoenhncfaaGreatDoor
/- Ways that fork; closures over cells that stay as they are; slices in a box's last cell. For any program. -/
namespace Go.Proofs.YtdieokoenhncfaaGreatDoor
open Go.RowKit Limb
section
variable {P : Program} {En : Ev} {n : Nat} {w0 : World} {h0 : GH} {c : Cx} {K : Exit → St → Prop} {σ : St} {full rest : List Oper} {acc : List Eff} {sl : Sl} {bx : Bx}
end
theorem AllV.append {h : GH} : ∀ {ps qs : List Pd} {us vs : List Value}, AllV h ps us → AllV h qs vs → AllV h (ps ++ qs) (us ++ vs)
 | [], _, [], _, _, k => k
 | _ :: _, _, _ :: _, _, ⟨a, b⟩, k => ⟨a, AllV.append b k⟩
 | [], _, _ :: _, _, h, _ => h.elim
 | _ :: _, _, [], _, h, _ => h.elim
def cl (f : FuncId) (cs : List (List Pd)) : Pd := ⟨fun h v => ∃ us : List Value, v = .func (.func f) #[] us.toArray ∧ AllV h (cs.map cpR) us, fun _ _ _ hl ⟨us, e, a⟩ => ⟨us, e, a.mono hl⟩⟩
instance (f : FuncId) (cs : List (List Pd)) : C1 (cl f cs) := ⟨fun _ _ ⟨_, e, _⟩ => by rw [e]; rfl⟩
theorem cl_nil (f : FuncId) : PLe (ex (.func (.func f) #[] #[])) (cl f []) := fun _ _ e => ⟨[], e, trivial⟩
section
variable {P : Program} {En : Ev} {n : Nat} {sl : Sl} {bx : Bx} {dst : Option Tmp} {ty : TypeId} {pos : String} {after : Array Edge} {guard : Option (Nat × Bool)}
theorem dZe {f : FuncId} {g : Nat} {xs : List Operand} {ats : Array TypeId} {ps : List Pd} {cs : List (List Pd)} {r : Pd} [hb : CBody P f] (hg : look sl g = some (.one (cl f cs))) (hf : Fn P En f (ps ++ cs.map cpR) r) (ha : args sl xs ps) :
  RT P En n ⟨dst, .call ⟨.value (.tmp g), xs.toArray, ats⟩, ty, pos, after, guard⟩ sl bx ⟨.one r, [], []⟩ := by
 intro sl' bx' h1 _ _ w0 h0 c h β a w Q hi hs
 have hargs : AllV h ps (xs.map a.eval) := dZ6 ha (fun x hx s hxs => aZB hs (by rw [h1 x (by simp [Op.operands, Call.operands, hx])]; exact hxs))
 obtain ⟨us, hv, hcap⟩ : (cl f cs).p h (a.eval (.tmp g)) := (aZB hs (x := .tmp g) (sd := .one (cl f cs)) (by rw [h1 (.tmp g) (by simp [Op.operands, Call.operands])]; exact hg)).1
 unfold Oper.wp
 have hrun : (execOp a.eval ⟨dst, .call ⟨.value (.tmp g), xs.toArray, ats⟩, ty, pos, after, guard⟩).run P w = .ok (.enter f (xs.map a.eval ++ us).toArray) w := by
  simp only [execOp, resolve, hv, Deferred.ofValue, Sem.run_bind, Sem.run_pure, Result.andThen_ok, invoke]
  rw [show (#[] ++ xs.toArray.map a.eval ++ us.toArray) = (xs.map a.eval ++ us).toArray by simp]
  exact cZc hb.ok _ w
 rw [hrun]
 refine Calls.mono (hf h w _ hi.envNow hi.holds (hargs.append hcap)) ?_
 rintro e w' ⟨v, h', rfl, g1, g2, g3, g4, g5⟩
 exact ⟨v, h', β, rfl, hi.call g1 g2 g3 g4, g1, fun _ _ => rfl, g5, trivial⟩
theorem cZ5 {f : FuncId} {x : Operand} {ps : List Pd} (hx : osd sl x = some (.one (cpR ps))) : RT P En n ⟨dst, .makeFunc (.func f) #[] #[x], ty, pos, after, guard⟩ sl bx ⟨.one (cl f [ps]), [], []⟩ :=
 RT.pure fun ρ h β bx' H => by
  have h1 : (cpR ps).p h (ρ x) := (H x (by simp [Op.operands]) _ hx).1
  refine ⟨.func (.func f) #[] #[ρ x], fun w _ => ?_, ⟨[ρ x], rfl, h1, trivial⟩, trivial⟩
  simp [execOp, Instr.makeFunc]
end
section
variable {σ : St}
theorem All2.last {h : GH} {p : Pd} : ∀ {ps : List Pd} {vs : List Value}, All2 h (ps ++ [p]) vs → ∃ us u, vs = us ++ [u] ∧ All2 h ps us ∧ p.p h u ∧ u.oneCell' = true
 | [], [u], ⟨a, b, _⟩ => ⟨[], u, rfl, trivial, a, b⟩
 | [], [], h => h.elim
 | [], _ :: _ :: _, ⟨_, _, h⟩ => h.elim
 | _ :: _, [], h => h.elim
 | _ :: ps, v :: vs, ⟨a, b, r⟩ => by
  obtain ⟨us, u, e, k1, k2, k3⟩ := All2.last r
  exact ⟨v :: us, u, by rw [e]; rfl, ⟨a, b, k1⟩, k2, k3⟩
theorem All2.snoc {h : GH} {p : Pd} {u : Value} (hp : p.p h u) (hu : u.oneCell' = true) : ∀ {ps : List Pd} {us : List Value}, All2 h ps us → All2 h (ps ++ [p]) (us ++ [u])
 | [], [], _ => ⟨hp, hu, trivial⟩
 | _ :: _, _ :: _, ⟨a, b, r⟩ => ⟨a, b, All2.snoc hp hu r⟩
 | [], _ :: _, h => h.elim
 | _ :: _, [], h => h.elim
theorem Sub.pubLast {b d p k len cap blk : Nat} {L : List Pd} {ps : List Pd} {sl : Sl} {bx0 : Bx} (hb0 : Nat.blt b 1000 = true) (hb : look σ.bx b = some ps) (hlen : ps.length = len * k) (hd : look bx0 d = some (L ++ [ex (gvl blk len cap)])) (hp : look σ.sl p = some (.pin b blk)) (hl0 : 0 < len) (hlc : len ≤ cap) (hcm : cap ≤ maxLen)
  (h2 : cZF σ.bx bx0) (h3 : look bx0 b = none) (h1 : dZu σ.sl ((d, L ++ [slc k ps len]) :: bx0) sl) : Sub σ ⟨sl, (d, L ++ [slc k ps len]) :: bx0⟩ := by
 rintro En n w0 h0 c a w ⟨h, β, hi, hs⟩
 have hb0 : b < 1000 := Nat.le_of_ble_eq_true hb0
 obtain ⟨h', vs, hi', hle, hall, hcell⟩ := hi.pub b hb0 hb h2 h3
 obtain ⟨_, _, r3, _⟩ := hs.slot p _ hp
 have r3 : β b = blk := r3
 have hslc : (slc k ps len).p h' (gvl blk len cap) := by
  cases len with
  | zero => omega
  | succ len => exact ⟨some ⟨blk, 0, none⟩, cap, rfl, hlc, hcm, (fun h => by cases h), hlen, fun _ => ⟨blk, 0, vs, rfl, hall, fun j u hu => by rw [Nat.zero_add, ← r3]; exact hcell j u hu⟩⟩
 refine ⟨h', β, ⟨hi'.env, hi'.holds, hi'.le0, hi'.fresh, hi'.below, hi'.dis, hi'.pin, fun i qs hq hqs => ?_, fun i j qs rs a1 a2 b1 b2 => ?_⟩, hs.defers, hs.size, fun t sd ht => ?_⟩
 ·have hq2 : look ((d, L ++ [slc k ps len]) :: bx0) i = some qs := hq
  by_cases e : d = i
  ·subst e
   rw [aZi, if_pos rfl] at hq2
   have hqe := Option.some.inj hq2
   rw [← hqe]
   obtain ⟨r1, r2, us, rest, T, r3', r4, r5⟩ := hi'.box _ _ hd (by simp)
   refine ⟨r1, r2, us, rest, T, r3', ?_, r5⟩
   obtain ⟨us', u, rfl, g1, g2, g3⟩ := r4.last
   have g2 : u = gvl blk len cap := g2
   exact All2.snoc (by rw [g2]; exact hslc) g3 g1
  ·rw [aZi, if_neg e] at hq2
   exact hi'.box i qs hq2 hqs
 ·have hne : ∀ i qs, look ((d, L ++ [slc k ps len]) :: bx0) i = some qs → qs ≠ [] → ∃ qs', look bx0 i = some qs' ∧ qs' ≠ [] := fun i qs hq hqs => by
   rw [aZi] at hq
   split at hq
   ·rename_i e
    subst e
    exact ⟨_, hd, by simp⟩
   ·exact ⟨qs, hq, hqs⟩
  obtain ⟨q1, e1, f1⟩ := hne i qs a1 a2
  obtain ⟨q2, e2, f2⟩ := hne j rs b1 b2
  exact hi'.inj i j _ _ e1 f1 e2 f2
 ·obtain ⟨⟨sd', g1, g2⟩, g3⟩ := cZU h1 ht
  obtain ⟨v, r1, r2, _⟩ := hs.slot t sd' g1
  exact ⟨v, r1, SD.ok_mono (g2.ok r2) g3 hle (fun _ _ => rfl), g3⟩
end
end Go.Proofs.YtdieokoenhncfaaGreatDoor

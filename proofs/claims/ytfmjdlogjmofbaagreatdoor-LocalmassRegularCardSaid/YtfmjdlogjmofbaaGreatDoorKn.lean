/- Slices of slices that grow. For any program. -/
import Derived.Test.YtfmjdlogjmofbaaGreatDoorHa
import Derived.Test.YtfmjdlogjmofbaaGreatDoorMem
import Derived.Test.YtfmjdlogjmofbaaGreatDoorW
set_option maxRecDepth 3000
namespace Go.Proofs.YtfmjdlogjmofbaaGreatDoor
section
open Go.RowKit Limb
def idL (d : Nat) : Bool := Nat.ble 700 d && Nat.blt d 750
theorem eZW {d : Nat} (h : idL d = true) : (500 ≤ d ∧ d < 750) ∧ lk d = true := by
 unfold idL at h
 rw [Bool.and_eq_true] at h
 have h1 := Nat.le_of_ble_eq_true h.1
 have h2 : d < 750 := Nat.le_of_ble_eq_true h.2
 refine ⟨oM, ?_⟩
 unfold lk
 rw [h.1, h.2]
 simp
theorem hZn {i : Nat} (h : lk i = true) (β : Nat → Nat) (vs : List Value) : tI i β vs = vs.map (tr β) := by unfold tI; rw [h]; rfl
theorem BMv.atL {s t : Bx} {a src : Nat} {ps' ps : List Pd} (hb : lk a = true) (hb' : lk src = true) (hgr : grows a → grows src) (hlo : a < 1000) (hlo2 : src < 1000) (hl : look s src = some ps') (h : PsMv (mvr a src) s t ps' ps) : BMv (mvr a src) s t a ps := by
 refine .inr ⟨ps', by rw [aZF]; exact hl, by rw [aZF]; omega, fun hg => ?_, .inr (.inl ⟨hb, by rw [aZF]; exact hb', h⟩)⟩
 rw [aZF, cZa]; exact ⟨hgr hg, rfl⟩
theorem BMv.growL {s t : Bx} {a src b : Nat} {ps' ps : List Pd} (hb : lk b = true) (hab : b ≠ a) (hab2 : b ≠ a + 250) (hab3 : b + 250 ≠ a) (hl : look s b = some ps') (h : PsMv (mvr a src) s t ps' ps) : BMv (mvr a src) s t b ps := by
 refine .inr ⟨ps', ?_, ?_, fun hg => ?_, .inr (.inl ⟨hb, ?_, h⟩)⟩ <;> rw [aZ7 hab hab2]
 ·exact hl
 ·exact ⟨hg, aZ7 hab3 oM⟩
 ·exact hb
section
variable {P : Program} {En : Ev} {n : Nat} {sl : Sl} {bx : Bx} {dst : Option Tmp} {ty : TypeId} {pos : String} {after : Array Edge} {guard : Option (Nat × Bool)}
theorem hZu {T E : TypeId} {t : Tmp} {r len cap bytes : Nat} {zs : List Value} (d : Nat) [hT : CElem P T E 1] [hz : CRowZ P E 1 zs bytes] (hx : osd sl (.tmp t) = some (.own r 0 len cap)) (hng : ¬ grows r) (hd : idL d = true) (hn : look bx d = none) (hn2 : look bx (d + 250) = none) :
  RT P En n ⟨dst, .buildSlice T 1 [(0, Operand.tmp t)].toArray, ty, pos, after, guard⟩ sl bx ⟨.app d 1 1, [], [(d, [ownP r 0 len cap]), (d + 250, [])]⟩ := by
 intro sl' bx' h1 _ h3 w0 h0 c h β a w Q hi hs
 obtain ⟨⟨hd1, hd2⟩, hdl⟩ := eZW hd
 have hn' : look bx' d = none := by rw [h3 d (by simp)]; exact hn
 have hn2' : look bx' (d + 250) = none := by rw [h3 (d + 250) (by simp)]; exact hn2
 obtain ⟨⟨cap', hv, hc1, hc2⟩, hlv⟩ := aZI hs (x := .tmp t) (sd := .own r 0 len cap) (by rw [h1 _ (by simp [Op.operands])]; exact hx)
 have hc1' : C1 (ex (a.eval (.tmp t))) := ⟨fun _ _ e => by rw [show _ = _ from e, hv]; rfl⟩
 obtain ⟨us, u1, u2, u3⟩ := gZk (P := P) (dst := dst) (ty := ty) (pos := pos) (after := after) (guard := guard) (sl := [(t, .one (ex (a.eval (.tmp t))))]) (xs := [(0, .tmp t)]) (ps := [(0, [ex (a.eval (.tmp t))])]) (len := 1) (k := 1) hT hz ⟨rfl, .inl ⟨_, hc1', by show look _ t = _; rw [aZc, if_pos rfl], rfl⟩, trivial⟩ (rs := [ex (a.eval (.tmp t))]) rfl oM oM (ρ := a.eval) (h := h) (β := β) (bx' := bx') (fun x hx s hxs => by
  rw [List.mem_singleton.1 hx] at hxs
  have e : some (SD.one (ex (a.eval (.tmp t)))) = some s := by rw [← hxs]; show _ = look _ t; rw [aZc, if_pos rfl]
  cases e
  rw [List.mem_singleton.1 hx]
  exact ⟨rfl, trivial⟩)
 have hus : us = [a.eval (.tmp t)] := by
  cases us with
  | nil => exact u1.elim
  | cons u us => cases us with
   | nil => rw [show u = _ from u1.1]
   | cons => exact u1.2.2.elim
 subst hus
 unfold Oper.wp
 rw [u3 w]
 have hI := hi.allocA d hd1 hd2 (rest := []) (ps := [ownP r 0 len cap]) (vs := [.slice (some ⟨r, 0, none⟩) len cap']) ⟨⟨cap', rfl, hc1, hc2⟩, rfl, trivial⟩ E (g := w.heap.size) (w' := w.alloc (.cells [a.eval (.tmp t)].toArray E)) (fun b o v e => by rw [World.cell?_of_block (w := w) (a := ⟨b, o, none⟩) (Below.heap_alloc w _ b (hi.holds.lt e))]; exact hi.holds b o v e) (hi.below.below ((Below.refl _ _).alloc (Nat.le_refl _) _)) hi.below.size (fun o => by
  cases hh : h w.heap.size o with
  | none => rfl
  | some v => exact absurd (hi.holds.lt hh) (Nat.lt_irrefl _)) (by rw [List.append_nil, hZn hdl, List.map_cons, List.map_nil, bZp hng, ← hv]; exact heap_alloc_new w _) (fun _ v hv => by
   rw [List.mem_singleton.1 hv]
   exact fun r' o' l c' e => by cases e; exact ⟨hlv, fun h => absurd h hng⟩) hn' hn2' (fun j qs hj hq => by
  have := hi.hlt hj hq
  exact ⟨oM, Below.heap_alloc w _ _ this⟩)
 refine ⟨_, h, _, rfl, hI, Le.refl _, fun j hj => ?_, .inr ⟨1, ?_, oM, Nat.le_refl _, by unfold maxLen; omega, ?_⟩, ?_⟩
 ·rw [aZ3 (by rintro rfl; exact hj hn2'), aZ3 (by rintro rfl; exact hj hn')]
 ·rw [aZ3 oM, aZZ]
 ·rw [aZZ]; rfl
 ·exact ⟨by show look ((d, _) :: _) d ≠ none; rw [aZc, if_pos rfl]; simp, by show look ((d, _) :: (d + 250, []) :: _) (d + 250) ≠ none; rw [aZc, if_neg oM, aZc, if_pos rfl]; simp⟩
theorem fZV {T E : TypeId} {s x : Operand} {b y len bytes : Nat} {zs : List Value} {ps : List Pd} {q : Pd} (d : Nat) [hT : CElem P T E 1] [hz : CRowZ P E 1 zs bytes] (h1 : osd sl s = some (.app b 1 len)) (hb : look bx b = some ps) (hlen : ps.length = len) (h2 : osd sl x = some (.app y 1 1)) (hy : look bx y = some [q]) (hmax : len ≤ 1000000) (hby : Nat.ble bytes 10000 = true) (hd : idL d = true) (hn : look bx d = none) (hn2 : look bx (d + 250) = none) (hbd : idL b = true) (hyd : idL y = true) {rs : List Pd} (hr : ps ++ [q] = rs) :
  RT P En n ⟨dst, .call ⟨.builtin .append, #[s, x], #[T, T]⟩, ty, pos, after, guard⟩ sl bx ⟨.app d 1 (len + 1), [b, y], [(d, rs), (d + 250, []), (b, [])]⟩ := by
 subst hr
 intro sl' bx' g1 g2 g3 w0 h0 c h β a w Q hi hs
 obtain ⟨⟨hd1, hd2⟩, hdl⟩ := eZW hd
 obtain ⟨⟨hb1, hb2⟩, hbl⟩ := eZW hbd
 obtain ⟨_, hyl⟩ := eZW hyd
 have hn' : look bx' d = none := by rw [g3 d (by simp)]; exact hn
 have hn2' : look bx' (d + 250) = none := by rw [g3 (d + 250) (by simp)]; exact hn2
 have hb' : look bx' b = some ps := by rw [g2 b (by simp)]; exact hb
 have hy' : look bx' y = some [q] := by rw [g2 y (by simp)]; exact hy
 have hdb : d ≠ b := by rintro rfl; rw [hb] at hn; cases hn
 have hsv := (aZI hs (x := s) (sd := .app b 1 len) (by rw [g1 s (by simp [Op.operands, Call.operands])]; exact h1)).1
 have hxv := (aZI hs (x := x) (sd := .app y 1 1) (by rw [g1 x (by simp [Op.operands, Call.operands])]; exact h2)).1
 obtain ⟨inf, z, q1, q2, q3, q4, q5, q6, q7⟩ := hz.get
 have hby := Nat.le_of_ble_eq_true hby
 have hsz : z.cells.size = 1 := by rw [q3]; simp [q6]
 obtain ⟨capx, hx, x2⟩ : ∃ capx, a.eval x = .slice (some ⟨β y, 0, none⟩) 1 capx ∧ 1 ≤ capx := by
  rcases hxv with ⟨_, e⟩ | ⟨capx, e, _, e2, _⟩
  ·cases e
  ·exact ⟨capx, e, e2⟩
 obtain ⟨_, _, vy, ry, Ty, y1, y2, _, y3⟩ := hi.box y [q] hy' (by simp)
 obtain ⟨u, rfl⟩ : ∃ u, vy = [u] := by
  cases vy with
  | nil => exact y2.elim
  | cons u us => cases us with
   | nil => exact ⟨u, rfl⟩
   | cons => exact y2.2.2.elim
 rw [hZn hyl] at y1
 have y3 := y3 hyl
 have hua : All2 h [q] [u] := y2
 have hnews : ∀ j v, [tr β u][j]? = some v → w.cell? ((⟨β y, 0, none⟩ : Addr).add j) = some v := fun j v hv => by
  rw [Addr.add_mid, Nat.zero_add, cell_of_row w _ _ _ Ty _ y1]
  cases j with
  | zero => simpa using hv
  | succ j => simp at hv
 have hone : ∀ v ∈ [tr β u], v.oneCell' = true := fun v hv => by rw [List.mem_singleton.1 hv]; exact fZQ hua.2.1
 have hbytes : (len + 1) * bytes ≤ 140737488355328 := by
  have : (len + 1) * bytes ≤ 1000001 * 10000 := Nat.mul_le_mul oM hby
  omega
 have h63 : len + 1 ≤ maxLen := by unfold maxLen; omega
 have done : ∀ (g cap : Nat) (w' : World) (vs rest : List Value) (T' : TypeId), (Builtin.append_ #[T, T] ty #[a.eval s, a.eval x]).run P w = .ok (.slice (some ⟨g, 0, none⟩) (len + 1) cap) w' → All2 h ps vs → (∀ v ∈ vs, lref β bx' v) →
   Holds h w' → BelowM c.M w0 w' → w0.heap.size ≤ g → (∀ o, h g o = none) → w'.heap[g]? = some (.cells ((vs ++ [u]).map (tr β) ++ rest).toArray T' (0, 0)) → ((vs ++ [u]) ++ rest).length = cap → len + 1 ≤ cap → cap ≤ maxLen →
   (∀ j qs, look bx' j = some qs → qs ≠ [] → j ≠ b → β j ≠ g ∧ w'.heap[β j]? = w.heap[β j]?) →
   Oper.wp P ⟨dst, .call ⟨.builtin .append, #[s, x], #[T, T]⟩, ty, pos, after, guard⟩ a w (fun a' w' => ∃ v h' β', a' = a.put dst v ∧ Inv En w0 h0 c h' β' ([(d, ps ++ [q]), (d + 250, []), (b, [])] ++ bx') w' ∧ Le h h' ∧ (∀ i, look bx' i ≠ none → β' i = β i) ∧ (SD.app d 1 (len + 1)).ok h' β' v ∧ (SD.app d 1 (len + 1)).live ([(d, ps ++ [q]), (d + 250, []), (b, [])] ++ bx')) Q := by
  intro g cap w' vs rest T' hrun hall hlrv hh hbel hg hgh hcell hsize hcap hcm hold
  have lv : ∀ r, look bx' r ≠ none → look ((b, ([] : List Pd)) :: bx') r ≠ none := fun r hr => by rw [aZc]; split <;> simp; exact hr
  have hi0 : Inv En w0 h0 c h β ((b, []) :: bx') w := by
   have src : ∀ j qs, look ((b, ([] : List Pd)) :: bx') j = some qs → qs ≠ [] → j ≠ b ∧ look bx' j = some qs := fun j qs hj hq => by
    rw [aZc] at hj
    split at hj
    ·cases hj; exact absurd rfl hq
    ·rename_i e; exact ⟨fun h => e h.symm, hj⟩
   exact ⟨hi.env, hi.holds, hi.le0, hi.fresh, hi.below, hi.dis, hi.pin, fun j qs hj hq => by
    obtain ⟨p1, p2, us, rs, T', p3, p4, p5, p6⟩ := hi.box j qs (src j qs hj hq).2 hq
    exact ⟨p1, p2, us, rs, T', p3, p4, p5, cZX p6 lv⟩, fun i j qs rs hi' hq hj' hr => hi.inj i j _ _ (src i qs hi' hq).2 hq (src j rs hj' hr).2 hr⟩
  have hI := hi0.allocA d hd1 hd2 (ps := ps ++ [q]) (vs := vs ++ [u]) (rest := rest) (hall.append hua) T' hh hbel hg hgh (by rw [hZn hdl]; exact hcell) (fun _ v hv => by
   rcases List.mem_append.1 hv with hv | hv
   ·exact (cZt (hlrv v hv) fun i hi => ⟨lv i hi, rfl⟩).1
   ·exact (cZt (y3 v hv) fun i hi => ⟨lv i hi, rfl⟩).1) (by rw [aZc, if_neg (by rintro rfl; exact hdb rfl)]; exact hn') (by rw [aZc, if_neg oM]; exact hn2') (fun j rs hj hr => by
   rw [aZc] at hj
   split at hj
   ·cases hj; exact absurd rfl hr
   ·rename_i e; exact hold j rs hj hr (fun h => e h.symm))
  unfold Oper.wp
  rw [cZm a s x T w hrun]
  refine ⟨_, h, _, rfl, hI, Le.refl _, fun j hj => ?_, .inr ⟨cap, ?_, oM, hcap, hcm, ?_⟩, ?_⟩
  ·rw [aZ3 (by rintro rfl; exact hj hn2'), aZ3 (by rintro rfl; exact hj hn')]
  ·rw [aZ3 oM, aZZ]
  ·rw [aZZ, hsize, Nat.mul_one]
  ·exact ⟨by show look ((d, _) :: _) d ≠ none; rw [aZc, if_pos rfl]; simp, by show look ((d, _) :: (d + 250, []) :: _) (d + 250) ≠ none; rw [aZc, if_neg oM, aZc, if_pos rfl]; simp⟩
 have newb : ∀ (vs : List Value) (v' : Value) (w' : World), All2 h ps vs → (∀ v ∈ vs, lref β bx' v) → (Builtin.append_ #[T, T] ty #[a.eval s, a.eval x]).run P w = .ok v' w' → w'.ownsRow w.heap.size E 1 v' (len + 1) ((vs ++ [u]).map (tr β)) → w.grownBy w' none → Oper.wp P ⟨dst, .call ⟨.builtin .append, #[s, x], #[T, T]⟩, ty, pos, after, guard⟩ a w (fun a' w' => ∃ v h' β', a' = a.put dst v ∧ Inv En w0 h0 c h' β' ([(d, ps ++ [q]), (d + 250, []), (b, [])] ++ bx') w' ∧ Le h h' ∧ (∀ i, look bx' i ≠ none → β' i = β i) ∧ (SD.app d 1 (len + 1)).ok h' β' v ∧ (SD.app d 1 (len + 1)).live ([(d, ps ++ [q]), (d + 250, []), (b, [])] ++ bx')) Q := by
  intro vs v' w' hall hlrv hr hown hgrow
  obtain ⟨_, ⟨_, o2⟩ | ⟨g, cap, cur, rfl, o1, o2, o3, o4, o5, o6⟩⟩ := hown
  ·omega
  have hbel : Below w.heap.size w w' := ⟨hgrow.os, hgrow.tape, hgrow.output, hgrow.size, fun k hk => hgrow.block k hk (by simp)⟩
  refine done g cap w' vs (cur.toList.drop ((len + 1) * 1)) E hr hall hlrv (fun b o v e => by rw [hbel.cell (p := ⟨b, o, none⟩) (hi.holds.lt e)]; exact hi.holds b o v e) (hi.below.below hbel) (Nat.le_trans hi.below.size o1) (fun o => ?_) ?_ ?_ o3 o4 (fun j rs hj hr _ => ?_)
  ·cases hh : h g o with
   | none => rfl
   | some v => have := hi.holds.lt hh; omega
  ·rw [← o6, List.take_append_drop]; exact o2
  ·have e := congrArg List.length o6
   have e2 := congrArg List.length (List.take_append_drop ((len + 1) * 1) cur.toList)
   rw [List.length_append] at e2
   rw [List.length_append]
   simp only [List.length_map] at e
   rw [← e, e2]; simpa using o5
  ·have := hi.hlt hj hr
   exact ⟨oM, hbel.block _ this⟩
 rcases hsv with ⟨hsv, hl0⟩ | ⟨cap0, hsv, c1, c2, c3, c4⟩
 ·subst hl0
  have hp0 : ps = [] := List.length_eq_zero_iff.1 hlen
  obtain ⟨v', w', hr, hown, hgrow, _⟩ := run_append_own (P := P) w w.heap.size T ty E inf z 1 bytes hT.ok.1 q1 q2 q4 q5 hsz oM (.slice none 0 0) 0 [] (World.ownsRow_nil w _ E 1) ⟨β y, 0, none⟩ 1 capx [tr β u] rfl hnews hone oM oM (Nat.le_refl _)
  exact newb [] v' w' (by rw [hp0]; trivial) (fun v hv => by cases hv) (by rw [hsv, hx]; exact hr) (by simpa using hown) (by simpa [Value.ownBlock] using hgrow)
 ·have hps : ps ≠ [] := by rintro rfl; simp at hlen; omega
  obtain ⟨r0, r1, vs, rest, T', r2, r3, r4, r5⟩ := hi.box b ps hb' hps
  have r5 := r5 hbl
  rw [hZn hbl] at r2
  have hsize := r4 ⟨hb1, hb2⟩
  rw [← c4, Nat.mul_one] at hsize
  have hvl : vs.length = len := by rw [← r3.length, hlen]
  have hvm : (vs.map (tr β)).length = len * 1 := by rw [List.length_map, hvl, Nat.mul_one]
  have hsize2 : (vs.map (tr β) ++ rest).length = cap0 := by simpa using hsize
  by_cases hroom : len + 1 ≤ cap0
  ·have hlt : len < (vs.map (tr β) ++ rest).length := by rw [hsize2]; omega
   have hcl : ∀ j, j < [tr β u].length → (w.cell? ⟨β b, 0 + len * inf.size + j, none⟩).isSome = true := fun j hj => by
    have hj : j = 0 := by simpa using hj
    subst hj
    rw [q4, Nat.zero_add, Nat.mul_one, Nat.add_zero, cell_of_row w _ _ _ T' _ r2]
    simp only [List.getElem?_toArray, List.getElem?_eq_getElem hlt, Option.isSome_some]
   have hfz : ∀ j, j < [tr β u].length → w.frozen? ⟨β b, 0 + len * inf.size + j, none⟩ = false := fun j hj => by
    unfold World.frozen?; simp [r2]
   have hr := run_append_room_cells (P := P) w T ty E inf hT.ok.1 q1 (β b) 0 len cap0 ⟨β y, 0, none⟩ 1 capx [tr β u] (by rw [q4]; rfl) hnews hone hroom hcl hfz
   rw [q4, Nat.zero_add] at hr
   refine done (β b) cap0 _ vs (rest.drop 1) T' (by rw [hsv, hx]; exact hr) r3 r5 (fun b' o v e => ?_) (bZW (.inl (r0.1 oM)) _ _ _ hi.below) (r0.1 oM) r1 ?_ ?_ hroom c3 (fun j rs hj hr hne => ?_)
   ·have hbb : b' ≠ β b := by rintro rfl; rw [r1 o] at e; cases e
    rw [World.cell?_of_block (w := w) (a := ⟨b', o, none⟩) (aZ1 hbb _ _ _)]
    exact hi.holds b' o v e
   ·rw [bZJ [tr β u] (len * 1) w _ T' _ r2, ← hvm, dZG [tr β u] (vs.map (tr β)) rest (by simp at hsize2 ⊢; omega), List.map_append]
    rfl
   ·simp at hsize ⊢; omega
   ·have hne' : β j ≠ β b := fun e => hne (hi.inj _ _ _ _ hj hr hb' hps e)
    exact ⟨hne', aZ1 hne' _ _ _⟩
  ·obtain ⟨v', w', hr, hown, hgrow⟩ := run_append_arg_grows (P := P) w T ty E inf z 1 bytes hT.ok.1 q1 q2 q4 q5 hsz oM ⟨β b, 0, none⟩ len cap0 (vs.map (tr β)) hvm (fun j u hu => by
    rw [Addr.add_mid, Nat.zero_add, cell_of_row w _ _ _ T' _ r2]
    have hlt := (List.getElem?_eq_some_iff.1 hu).1
    simpa [List.getElem?_append_left hlt] using hu) ⟨β y, 0, none⟩ 1 capx [tr β u] rfl hnews oM h63 hbytes
   exact newb vs v' w' r3 r5 (by rw [hsv, hx]; exact hr) (by rw [List.map_append]; exact hown) hgrow
end
end
section
open Go.RowKit Limb Det Num
def remM (A : Nat → Nat → Int) (m : Nat) : Nat → Nat → Int := fun r c => A r c % (m : Int)
theorem oZK (f : Nat → Int) (m : Nat) : (iRow f m).length = m * 1 := by rw [Nat.mul_one]; exact bZc _ m
theorem fZW {A : Nat → Nat → Int} {i m : Nat} (r : Nat) (h : r ≠ i) : aZy A (i + 1) m r = aZy A i m r := by
 by_cases h1 : r < i
 ·rw [aZl h1, aZl oM]
 ·rw [aZo h1, aZo oM]
def owR (d n : Nat) : Nat → Pd := fun j => ownP (d + j) 0 n n
instance cbody83 : CBody Tryz.prog 83 := ⟨⟨_, Tryz.func83, rfl, by rfl⟩⟩
section
variable (En : Ev)
set_option maxHeartbeats 1000000 in
theorem hreduce (A : Nat → Nat → Int) (n m : Nat) (hn : 1 ≤ n) (hn8 : n ≤ 8) (hm : 1 ≤ m) (hm2 : m ≤ 4294967296) : FnG Tryz.prog En 83 ([imt A n n, ex (.int .i64 (m : Int))].map .one) [] (.own 400 0 n n) (mbx 400 200 (fun i => i) n n (aZy (remM A m) n n)) := by
 refine aZr Tryz.func83 rfl Tryz.ntmps83 rfl ?_
 intro w0 h0 c
 refine js<|jr<|ja jj<|jn<|js<|jr<|ja jj<|jn<|js<|js<|jr<|jm jj<|jE jj<|jm jj<|jn<|jb ?_
 refine WpD.loop (α := {i : Nat // i ≤ n}) (fun i => ⟨[(1, .one (ex (.int .i64 (m : Int)))), (5, .app 701 1 i.1), (11, .one (imt A n n)), (12, .one (ex (.int .i64 (n : Int)))), (13, .one (ex (.int .i64 (i.1 : Int))))], (701, outL (owR 200 n) i.1) :: (951, []) :: rws 200 (aZy (remM A m) i.1 n)⟩) (fun i => n - i.1) ⟨0, Nat.zero_le _⟩ ?_ ?_
 ·dsimp only
  exact Sub.mk sJ ⟨.inr rfl, .inr rfl, .inr (aZo oM), .inr (aZo oM), .inr (aZo oM), .inr (aZo oM), .inr (aZo oM), .inr (aZo oM), .inr (aZo oM), .inr (aZo oM), trivial⟩ (LKeep.all ⟨.inr (fun p hp => by cases hp), .inl rfl, lkAll.fam rfl trivial⟩)
 rintro ⟨i, hi⟩
 dsimp only
 by_cases hin : i < n
 ·refine js<|jr<|jS (bLt jj jj)<|jn<|js<|jt jj<|jp<|js<|jb<|js<|jr<|jS (bZb jj jj aO)<|jS (aZh jj jj)<|ja jj<|jn<|js<|jr<|ja jj<|jn<|js<|js<|jr<|jm jj<|jE jj<|jm jj<|jn<|jb ?_
  refine WpD.loop (α := {j : Nat // j ≤ n}) (fun j => ⟨[(1, .one (ex (.int .i64 (m : Int)))), (5, .app 701 1 i), (8, .app 501 1 j.1), (11, .one (imt A n n)), (12, .one (ex (.int .i64 (n : Int)))), (13, .one (ex (.int .i64 (i : Int)))), (17, .one (slc 1 (rowL (fun c => [ex (.int .i64 (A i c))]) n) n)), (18, .one (ex (.int .i64 (n : Int)))), (19, .one (ex (.int .i64 (j.1 : Int))))], (701, outL (owR 200 n) i) :: (951, []) :: (501, iRow (remM A m i) j.1) :: (751, []) :: rws 200 (aZy (remM A m) i n)⟩) (fun j => n - j.1) ⟨0, Nat.zero_le _⟩ ?_ ?_
  ·dsimp only
   refine Sub.mk ?_ ⟨.inl pQ, .inr rfl, .inr rfl, .inr rfl, subBx.fam fFm (fun r _ => PsLe.refl _) trivial⟩ (LKeep.all ⟨.inr (fun p hp => ?_), .inl rfl, .inl rfl, .inl rfl, lkAll.fam rfl trivial⟩)
   ·repeat (first | exact trivial | refine jv rfl ?_ | refine jw rfl ⟨js0 rfl, js0 rfl⟩ ?_ | refine jx rfl ⟨js0 rfl, js0 rfl⟩ ?_ | refine jw rfl (js0 rfl) ?_)
   ·obtain ⟨a, ha, rfl⟩ := cZh hp
    exact bZU ((Fam.live fFm) a oM) uG
  rintro ⟨j, hj⟩
  dsimp only
  by_cases hjn : j < n
  ·have C1 := gmod En (A i j) (m : Int) oM oM
   refine js<|jr<|jS (bLt jj jj)<|jn<|js<|jt jj<|jp<|js<|jb<|js<|jr<|jS (bZm jj jj aO (fun _ _ => jj))<|jS (aZh jj jj)<|ja jj<|jn<|jr<|jm jj<|jm jj<|jm jj<|jS (aZa C1 tB)<|jS (aZ5 (ps := [(_, _)]) ⟨jj, Part.c jj, trivial⟩ jj jj jj)<|RG.SW (LT.plain jj (aZD 528 jj jj ((oZK _ _)) jj oM oM jj jj jj jj jj jj)) jj<|ja jj<|jn<|jr<|jS (bAd jj jj wO)<|jm jj<|jn ?_
   refine ⟨⟨j + 1, oM⟩, ?_, oD⟩
   dsimp only
   refine Sub.mv 501 528 oM oM oM ⟨pK, ⟨_, rfl, aZ7 oM oM, aZ7 oM oM, rfl, rfl, js0 rfl, js0 rfl⟩, ⟨_, rfl, aZF _ _, cZa _ _, rfl, rfl, js0 rfl, js0 rfl⟩, pK, pK, pK, pK, pK, pK, trivial⟩ ⟨BMv.growL rfl oM oM oM rfl (PsMv.out fun a ha => PMv.own (aZ7 oM oM) ((Fam.live fFm) a oM) uG uG), .inl rfl, BMv.at rfl rfl (fun _ => by unfold grows; omega) oM oM rfl (PsLe.refl _), .inl rfl, mvBx.fam (fun r hr => BMv.keep (bZL oM) oM oM uG ((show Fam _ 200 (aZy (remM A m) i n) from fFm) r hr) (PsLe.refl _)) trivial⟩ rfl rfl
  ·have e : j = n := oM
   subst e
   have hrow : PsLe (iRow (remM A m i) j) (aZy (remM A m) (i + 1) j i) := PsLe.of (aZl oM).symm
   refine js<|jr<|jS (bLf jj jj)<|jn<|js<|jf jj<|je ?_
   refine WpD.sub (τ := ⟨[(1, .one (ex (.int .i64 (m : Int)))), (5, .app 701 1 i), (8, .own (200 + i) 0 j j), (11, .one (imt A j j)), (12, .one (ex (.int .i64 (j : Int)))), (13, .one (ex (.int .i64 (i : Int))))], (701, outL (owR 200 j) i) :: (951, []) :: rws 200 (aZy (remM A m) (i + 1) j)⟩) (Sub.mv (200 + i) 501 oM oM oM ⟨pK, ⟨_, rfl, aZ7 oM oM, aZ7 oM oM, rfl, rfl, js0 rfl, js0 rfl⟩, ⟨_, rfl, aZF _ _, oM, rfl, rfl, rfl, (Fam.live fFm) i oM⟩, pK, pK, pK, trivial⟩ ⟨BMv.growL rfl oM oM oM rfl (PsMv.out fun a ha => PMv.own (aZ7 oM oM) ((Fam.live fFm) a oM) uG uG), .inl rfl, mvBx.fam (fun r hr => ?_) trivial⟩ rfl ?_) ?_
   ·by_cases h2 : r = i
    ·subst h2
     exact BMv.at (bZL oM) rfl uG oM oM rfl hrow
    ·exact BMv.keep (bZL oM) oM oM uG ((show Fam _ 200 (aZy (remM A m) i j) from fFm) r hr) (PsLe.of (fZW r h2).symm)
   ·rw [aZc, if_neg oM, aZc, if_neg oM, cZu, if_neg oM]; rfl
   refine kO ?_
   refine jr<|jm jj<|jm jj<|RG.SW (LT.plain jj (hZu 732 jj uG jj jj jj)) jj<|RG.SW (LT.plain jj (fZV 733 jj jj (bZc _ _) jj jj oM jj jj jj jj jj jj jj)) jj<|ja jj<|jn<|jr<|jS (bAd jj jj wO)<|jm jj<|jn ?_
   refine ⟨⟨i + 1, oM⟩, ?_, oD⟩
   dsimp only
   refine Sub.mv 701 733 oM oM oM ⟨pK, ⟨_, rfl, aZF _ _, cZa _ _, rfl, rfl, js0 rfl, js0 rfl⟩, pK, pK, pK, trivial⟩ ⟨BMv.atL rfl rfl (fun _ => by unfold grows; omega) oM oM rfl (PsMv.out (f := owR 200 j) (n := i + 1) fun a ha => PMv.own (aZ7 oM oM) ((Fam.live fFm) a oM) uG uG), .inl rfl, mvBx.fam (fun r hr => BMv.keep (bZL oM) oM oM uG ((show Fam _ 200 (aZy (remM A m) (i + 1) j) from fFm) r hr) (PsLe.refl _)) trivial⟩ rfl rfl
 ·have e : i = n := oM
  subst e
  refine js<|jr<|jS (bLf jj jj)<|jn<|js<|jf jj<|je ?_
  refine WpD.sub (τ := ⟨[(5, .own 400 0 i i)], mbx 400 200 (fun i => i) i i (aZy (remM A m) i i)⟩) (Sub.mv 400 701 oM oM oM ⟨⟨_, rfl, aZF _ _, oM, rfl, rfl, rfl, js0 rfl⟩, trivial⟩ ⟨BMv.atL rfl rfl (fun h => absurd h uG) oM oM rfl (PsMv.out (f := owR 200 i) (g := owR 200 i) (n := i) fun a ha => PMv.own (aZ7 oM oM) ((Fam.live fFm) a oM) uG uG), mvBx.fam (l := []) (fun r hr => BMv.keep (bZL oM) oM oM uG ((show Fam _ 200 (aZy (remM A m) i i) from fFm) r hr) (PsLe.refl _)) trivial⟩ rfl rfl) ?_
  refine kO ?_
  refine jr<|jm jj<|ja jj<|jn<|ji ?_
  refine dZm rfl rfl (SLe.rfl' _) (js0 rfl) ⟨.inl pQ, subBx.fam (l := []) fFm (fun _ _ => PsLe.refl _) trivial⟩ (LKeep.all ⟨.inr (aZp (Fam.live fFm) oM oM), lkAll.fam (l := []) rfl trivial⟩)
end
end
section
open Go.RowKit Limb
def sC (bG bT : Nat) (p m k : Int) (n : Nat) : List Pd := [ex (.int .i64 p), ex (.int .i64 m), ex (.int .i64 k), ownP bG 0 n n, ownP bT 0 n n]
def owP (d n : Nat) (π : Nat → Nat) : Nat → Pd := fun i => ownP (d + π i) 0 n n
def sbx (bS bG dG bT dT : Nat) (p m k : Int) (n : Nat) (π : Nat → Nat) (g t : Nat → List Pd) : Bx := (bS, sC bG bT p m k n) :: (bG, outL (owP dG n π) n) :: (rws dG g ++ ((bT, outL (owP dT n fun i => i) n) :: rws dT t))
def sbc (p m k : Int) (n : Nat) (π : Nat → Nat) (g t : Nat → List Pd) : Bx := sbx 1750 1760 1001 1780 1011 p m k n π g t
def muS (bS bG dG bT dT : Nat) : Nat → Nat := fun i => bif Nat.beq i 1750 then bS else bif Nat.beq i 1760 then bG else bif Nat.beq i 1780 then bT else bif Nat.blt i 1011 then dG + (i - 1001) else dT + (i - 1011)
theorem oZ6 {bS bG dG bT dT j : Nat} (h : j < 8) : muS bS bG dG bT dT (1001 + j) = dG + j := by
 unfold muS
 rw [show Nat.beq (1001 + j) 1750 = false by cases e : Nat.beq (1001 + j) 1750; rfl; have := Nat.eq_of_beq_eq_true e; omega, show Nat.beq (1001 + j) 1760 = false by cases e : Nat.beq (1001 + j) 1760; rfl; have := Nat.eq_of_beq_eq_true e; omega, show Nat.beq (1001 + j) 1780 = false by cases e : Nat.beq (1001 + j) 1780; rfl; have := Nat.eq_of_beq_eq_true e; omega, show Nat.blt (1001 + j) 1011 = true by rw [Nat.blt, Nat.ble_eq]; omega]
 simp
theorem oZ5 {bS bG dG bT dT j : Nat} (h : j < 8) : muS bS bG dG bT dT (1011 + j) = dT + j := by
 unfold muS
 rw [show Nat.beq (1011 + j) 1750 = false by cases e : Nat.beq (1011 + j) 1750; rfl; have := Nat.eq_of_beq_eq_true e; omega, show Nat.beq (1011 + j) 1760 = false by cases e : Nat.beq (1011 + j) 1760; rfl; have := Nat.eq_of_beq_eq_true e; omega, show Nat.beq (1011 + j) 1780 = false by cases e : Nat.beq (1011 + j) 1780; rfl; have := Nat.eq_of_beq_eq_true e; omega, show Nat.blt (1011 + j) 1011 = false by cases e : Nat.blt (1011 + j) 1011; rfl; exact absurd (Nat.le_of_ble_eq_true e) oM]
 simp
theorem fZ5 {bS bG dG bT dT : Nat} {p m k : Int} {n : Nat} {π : Nat → Nat} {g t : Nat → List Pd} {bx : Bx} (h : ((ids dG).all (fun j => !Nat.beq bS j) && (ids dG).all (fun j => !Nat.beq bG j)) = true) : Fam (sbx bS bG dG bT dT p m k n π g t ++ bx) dG g := by
 rw [Bool.and_eq_true] at h
 show Fam ((bS, _) :: (bG, _) :: ((rws dG g ++ _) ++ bx)) dG g
 rw [List.append_assoc]
 exact Fam.skip h.1 (Fam.skip h.2 (eZ3 _ _ _))
theorem fZ4 {bS bG dG bT dT : Nat} {p m k : Int} {n : Nat} {π : Nat → Nat} {g t : Nat → List Pd} {bx : Bx} (h : (((ids dT).all (fun j => !Nat.beq bS j) && (ids dT).all (fun j => !Nat.beq bG j)) && ((Nat.ble (dG + 8) dT || Nat.ble (dT + 8) dG) && (ids dT).all (fun j => !Nat.beq bT j))) = true) : Fam (sbx bS bG dG bT dT p m k n π g t ++ bx) dT t := by
 rw [Bool.and_eq_true, Bool.and_eq_true, Bool.and_eq_true] at h
 show Fam ((bS, _) :: (bG, _) :: ((rws dG g ++ _) ++ bx)) dT t
 rw [List.append_assoc]
 exact Fam.skip h.1.1 (Fam.skip h.1.2 (Fam.skipF h.2.1 (Fam.skip h.2.2 (eZ3 _ _ _))))
theorem boxesL.fam {bx : Bx} {μ : Nat → Nat} {cb : Bx} {d d' : Nat} {g : Nat → List Pd} {l : Bx} (hd : ∀ j, j < 8 → μ (d + j) = d' + j) (hl : nolk d = true) (hf : Fam bx d' g) (r : boxesL bx μ cb l) : boxesL bx μ cb (rws d g ++ l) := by
 have k : ∀ j, j < 8 → ∃ ps', look bx (μ (d + j)) = some ps' ∧ BoxRel μ cb (d + j) ps' (g j) := fun j hj => ⟨g j, by rw [hd j hj]; exact hf j hj, .inr ⟨dZI hl hj, rfl⟩⟩
 exact ⟨k 0 oM, k 1 oM, k 2 oM, k 3 oM, k 4 oM, k 5 oM, k 6 oM, k 7 oM, r⟩
theorem outsL.fam {μ : Nat → Nat} {cb : Bx} {d d' : Nat} {g : Nat → List Pd} {l l' : Bx} (hd : ∀ j, j < 8 → μ (d + j) = d' + j) (hl : nolk d = true) (r : outsL μ cb l l') : outsL μ cb (rws d g ++ l) (rws d' g ++ l') := by
 have k : ∀ j, j < 8 → d' + j = μ (d + j) ∧ BoxRel μ cb (d + j) (g j) (g j) := fun j hj => ⟨(hd j hj).symm, .inr ⟨dZI hl hj, rfl⟩⟩
 exact ⟨k 0 oM, k 1 oM, k 2 oM, k 3 oM, k 4 oM, k 5 oM, k 6 oM, k 7 oM, r⟩
theorem eZz {p m k : Int} {n : Nat} {π : Nat → Nat} {g t : Nat → List Pd} {j : Nat} (h : j < 8) : look (sbc p m k n π g t) (1001 + j) ≠ none := by
 have := fZ5 (bS := 1750) (bG := 1760) (dG := 1001) (bT := 1780) (dT := 1011) (p := p) (m := m) (k := k) (n := n) (π := π) (g := g) (t := t) (bx := []) rfl
 rw [List.append_nil] at this
 exact this.live j h
theorem eZy {p m k : Int} {n : Nat} {π : Nat → Nat} {g t : Nat → List Pd} {j : Nat} (h : j < 8) : look (sbc p m k n π g t) (1011 + j) ≠ none := by
 have := fZ4 (bS := 1750) (bG := 1760) (dG := 1001) (bT := 1780) (dT := 1011) (p := p) (m := m) (k := k) (n := n) (π := π) (g := g) (t := t) (bx := []) rfl
 rw [List.append_nil] at this
 exact this.live j h
section
variable {P : Program} {En : Ev} {nn : Nat} {sl : Sl} {bx : Bx} {dst : Option Tmp} {ty : TypeId} {pos : String} {after : Array Edge} {guard : Option (Nat × Bool)}
theorem cZR {f : FuncId} {xs : List Operand} {ats : Array TypeId} {az : List SD} {p m k : Int} {n : Nat} {π π' : Nat → Nat} {g g' t t' : Nat → List Pd} {r : Pd} (bS bG dG bT dT : Nat) [hb : CBody P f] (hf : FnG P En f az (sbc p m k n π g t) (.one r) (sbc p m k n π' g' t')) (ha : iZZ sl (sbc p m k n π g t) (muS bS bG dG bT dT) xs az)
  (hS : look bx bS = some (sC bG bT p m k n)) (hG : look bx bG = some (outL (owP dG n π) n)) (hg : Fam bx dG g) (hT : look bx bT = some (outL (owP dT n fun i => i) n)) (ht : Fam bx dT t) (hn : n ≤ 8) (hπ : ∀ i, i < n → π i < 8) (hπ' : ∀ i, i < n → π' i < 8)
  (ok : mZG (muS bS bG dG bT dT) ([1750, 1760] ++ ids 1001 ++ [1780] ++ ids 1011) ([1750, 1760] ++ ids 1001 ++ [1780] ++ ids 1011) = true := by rfl) :
  RT P En nn ⟨dst, .call ⟨.value (.func f), xs.toArray, ats⟩, ty, pos, after, guard⟩ sl bx ⟨.one r, bS :: bG :: (ids dG ++ bT :: ids dT), sbx bS bG dG bT dT p m k n π' g' t'⟩ := by
 have gG : ∀ ρ : Nat → Nat, (∀ i, i < n → ρ i < 8) → CsMv (muS bS bG dG bT dT) (sbc p m k n π g t) (outL (owP dG n ρ) n) (outL (owP 1001 n ρ) n) := fun ρ hρ => CsMv.out fun i hi => CMv.own (oZ6 (hρ i hi)).symm (eZz (hρ i hi))
 have gT : CsMv (muS bS bG dG bT dT) (sbc p m k n π g t) (outL (owP dT n fun i => i) n) (outL (owP 1011 n fun i => i) n) := CsMv.out fun i hi => CMv.own (oZ5 (show i < 8 by omega)).symm (eZy (show i < 8 by omega))
 have gS : CsMv (muS bS bG dG bT dT) (sbc p m k n π g t) (sC bG bT p m k n) (sC 1760 1780 p m k n) := ⟨CMv.flat, CMv.flat, CMv.flat, CMv.own rfl (Option.some_ne_none _), CMv.own rfl (Option.some_ne_none _), trivial⟩
 have hids : ∀ (d d' : Nat), (∀ j, j < 8 → muS bS bG dG bT dT (d + j) = d' + j) → ∀ (ff : Nat → List Pd) (l : Bx), ((rws d ff ++ l).map fun x => muS bS bG dG bT dT x.1) = ids d' ++ l.map fun x => muS bS bG dG bT dT x.1 := fun d d' h ff l => by
  rw [List.map_append]
  congr 1
  show [muS bS bG dG bT dT (d + 0), muS bS bG dG bT dT (d + 1), muS bS bG dG bT dT (d + 2), muS bS bG dG bT dT (d + 3), muS bS bG dG bT dT (d + 4), muS bS bG dG bT dT (d + 5), muS bS bG dG bT dT (d + 6), muS bS bG dG bT dT (d + 7)] = _
  rw [h 0 oM, h 1 oM, h 2 oM, h 3 oM, h 4 oM, h 5 oM, h 6 oM, h 7 oM]
  rfl
 refine oZh (muS bS bG dG bT dT) (sbx bS bG dG bT dT p m k n π' g' t') hf ha ?_ ?_ ok ?_
 ·refine ⟨⟨_, hS, .inl ⟨rfl, gS⟩⟩, ⟨_, hG, .inl ⟨rfl, gG π hπ⟩⟩, boxesL.fam (d' := dG) (fun j hj => oZ6 hj) rfl hg ⟨⟨_, hT, .inl ⟨rfl, gT⟩⟩, ?_⟩⟩
  have := boxesL.fam (l := []) (cb := sbc p m k n π g t) (d := 1011) (d' := dT) (fun j hj => oZ5 (bS := bS) (bG := bG) (dG := dG) (bT := bT) (dT := dT) hj) rfl ht trivial
  rwa [List.append_nil] at this
 ·refine ⟨⟨rfl, .inl ⟨rfl, gS⟩⟩, ⟨rfl, .inl ⟨rfl, gG π' hπ'⟩⟩, outsL.fam (d := 1001) (d' := dG) (fun j hj => oZ6 hj) rfl ⟨⟨rfl, .inl ⟨rfl, gT⟩⟩, ?_⟩⟩
  have := outsL.fam (l := []) (l' := []) (cb := sbc p m k n π g t) (d := 1011) (d' := dT) (g := t') (fun j hj => oZ5 (bS := bS) (bG := bG) (dG := dG) (bT := bT) (dT := dT) hj) rfl trivial
  rwa [List.append_nil, List.append_nil] at this
 ·show muS bS bG dG bT dT 1750 :: muS bS bG dG bT dT 1760 :: ((rws 1001 g ++ ((1780, _) :: rws 1011 t)).map fun x => muS bS bG dG bT dT x.1) = _
  rw [hids 1001 dG (fun j hj => oZ6 hj)]
  have := hids 1011 dT (fun j hj => oZ5 hj) t []
  rw [List.append_nil] at this
  rw [List.map_cons, this, List.map_nil, List.append_nil]
  rfl
theorem iZn {bx l : Bx} {d : Nat} {f : Nat → List Pd} (hf : Fam bx d f) (hl : ∀ i, look l i = look bx i) (i : Nat) : look (rws d f ++ l) i = look bx i := by
 rw [bZV]
 by_cases h : d ≤ i ∧ i < d + 8
 ·rw [if_pos h]
  have := hf (i - d) oM
  rw [show d + (i - d) = i by omega] at this
  exact this.symm
 ·rw [if_neg h]; exact hl i
theorem fZF {bx l : Bx} {b : Nat} {ps : List Pd} (hf : look bx b = some ps) (hl : ∀ i, look l i = look bx i) (i : Nat) : look ((b, ps) :: l) i = look bx i := by
 rw [aZc]
 split
 ·rename_i e; rw [← e]; exact hf.symm
 ·exact hl i
theorem bZx {f : FuncId} {xs : List Operand} {ats : Array TypeId} {az : List SD} {p m k : Int} {n : Nat} {π : Nat → Nat} {g t : Nat → List Pd} {r : Pd} (bS bG dG bT dT : Nat) [hb : CBody P f] (hf : FnG P En f az (sbc p m k n π g t) (.one r) (sbc p m k n π g t)) (ha : iZZ sl (sbc p m k n π g t) (muS bS bG dG bT dT) xs az)
  (hS : look bx bS = some (sC bG bT p m k n)) (hG : look bx bG = some (outL (owP dG n π) n)) (hg : Fam bx dG g) (hT : look bx bT = some (outL (owP dT n fun i => i) n)) (ht : Fam bx dT t) (hn : n ≤ 8) (hπ : ∀ i, i < n → π i < 8)
  (ok : mZG (muS bS bG dG bT dT) ([1750, 1760] ++ ids 1001 ++ [1780] ++ ids 1011) ([1750, 1760] ++ ids 1001 ++ [1780] ++ ids 1011) = true := by rfl) :
  RT P En nn ⟨dst, .call ⟨.value (.func f), xs.toArray, ats⟩, ty, pos, after, guard⟩ sl bx ⟨.one r, bS :: bG :: (ids dG ++ bT :: ids dT), []⟩ := fun sl' bx' h1 h2 _ => by
 have hm : ∀ i, i ∈ (sbx bS bG dG bT dT p m k n π g t).map (·.1) → i ∈ bS :: bG :: (ids dG ++ bT :: ids dT) := fun i hi => by
  have e : (sbx bS bG dG bT dT p m k n π g t).map (·.1) = bS :: bG :: (ids dG ++ bT :: ids dT) := by
   show bS :: bG :: ((rws dG g ++ ((bT, _) :: rws dT t)).map (·.1)) = _
   rw [List.map_append, List.map_cons, dZS, dZS]
  rwa [e] at hi
 refine Tri.alikeW (cZR bS bG dG bT dT hf ha hS hG hg hT ht hn hπ hπ ok sl' bx' h1 h2 fun i hi => h2 i (hm i hi)) ?_
 have k1 : look bx' bS = some (sC bG bT p m k n) := (h2 bS (by simp)).trans hS
 have k2 : look bx' bG = some (outL (owP dG n π) n) := (h2 bG (by simp)).trans hG
 have k3 : Fam bx' dG g := fun j hj => (h2 _ (List.mem_cons_of_mem _ (List.mem_cons_of_mem _ (List.mem_append_left _ (bZ4 hj))))).trans (hg j hj)
 have k4 : look bx' bT = some (outL (owP dT n fun i => i) n) := (h2 bT (by simp)).trans hT
 have k5 : Fam bx' dT t := fun j hj => (h2 _ (List.mem_cons_of_mem _ (List.mem_cons_of_mem _ (List.mem_append_right _ (List.mem_cons_of_mem _ (bZ4 hj)))))).trans (ht j hj)
 intro i
 show look ((bS, _) :: (bG, _) :: ((rws dG g ++ ((bT, _) :: rws dT t)) ++ bx')) i = look bx' i
 rw [List.append_assoc]
 exact fZF k1 (fZF k2 (iZn k3 (fZF k4 (iZn k5 fun _ => rfl)))) i
end
theorem subBx.sbx {s : Bx} {bS bG dG bT dT : Nat} {p m k : Int} {n : Nat} {π : Nat → Nat} {g g0 t t0 : Nat → List Pd} {l : Bx} (hS : look s bS = some (sC bG bT p m k n)) (hG : look s bG = some (outL (owP dG n π) n)) (hg : Fam s dG g0) (hT : look s bT = some (outL (owP dT n fun i => i) n)) (ht : Fam s dT t0) (eg : ∀ j, j < 8 → PsLe (g0 j) (g j)) (et : ∀ j, j < 8 → PsLe (t0 j) (t j)) (hl : subBx s l) : subBx s (sbx bS bG dG bT dT p m k n π g t ++ l) := by
 show subBx s ((bS, _) :: (bG, _) :: ((rws dG g ++ ((bT, _) :: rws dT t)) ++ l))
 rw [List.append_assoc]
 exact ⟨.inl ⟨_, hS, PsLe.refl _⟩, .inl ⟨_, hG, PsLe.refl _⟩, subBx.fam hg eg ⟨.inl ⟨_, hT, PsLe.refl _⟩, subBx.fam ht et hl⟩⟩
theorem lkAll.sbx {full : Bx} {bS bG dG bT dT : Nat} {p m k : Int} {n : Nat} {π : Nat → Nat} {g t : Nat → List Pd} {l : Bx} (hG : look full bG ≠ none) (hT : look full bT ≠ none) (ng : ¬ grows bG ∧ ¬ grows bT) (hg : ∀ j, j < 8 → look full (dG + j) ≠ none) (ht : ∀ j, j < 8 → look full (dT + j) ≠ none) (hd : (dG + 8 ≤ 400 ∨ 1000 ≤ dG) ∧ (dT + 8 ≤ 400 ∨ 1000 ≤ dT)) (hn : n ≤ 8) (hπ : ∀ i, i < n → π i < 8) (h1 : nolk dG = true) (h2 : nolk dT = true) (hl : lkAll full l) : lkAll full (sbx bS bG dG bT dT p m k n π g t ++ l) := by
 show lkAll full ((bS, _) :: (bG, _) :: ((rws dG g ++ ((bT, _) :: rws dT t)) ++ l))
 rw [List.append_assoc]
 refine ⟨.inr fun q hq => ?_, .inr (aZp hg hd.1 hπ), lkAll.fam h1 ⟨.inr (aZp (π := fun i => i) ht hd.2 fun i hi => oM), lkAll.fam h2 hl⟩⟩
 unfold sC at hq
 simp only [List.mem_cons, List.not_mem_nil, or_false] at hq
 rcases hq with rfl | rfl | rfl | rfl | rfl
 ·exact bZH
 ·exact bZH
 ·exact bZH
 ·exact bZU hG ng.1
 ·exact bZU hT ng.2
theorem lZa {bS bG dG bT dT : Nat} {p m k : Int} {n : Nat} {π : Nat → Nat} {g t : Nat → List Pd} (h : ((ids dG).all (fun j => !Nat.beq bS j) && (ids dG).all (fun j => !Nat.beq bG j)) = true) : Fam (sbx bS bG dG bT dT p m k n π g t) dG g := by
 have := fZ5 (bT := bT) (dT := dT) (p := p) (m := m) (k := k) (n := n) (π := π) (g := g) (t := t) (bx := []) h
 rwa [List.append_nil] at this
theorem kZZ {bS bG dG bT dT : Nat} {p m k : Int} {n : Nat} {π : Nat → Nat} {g t : Nat → List Pd} (h : (((ids dT).all (fun j => !Nat.beq bS j) && (ids dT).all (fun j => !Nat.beq bG j)) && ((Nat.ble (dG + 8) dT || Nat.ble (dT + 8) dG) && (ids dT).all (fun j => !Nat.beq bT j))) = true) : Fam (sbx bS bG dG bT dT p m k n π g t) dT t := by
 have := fZ4 (p := p) (m := m) (k := k) (n := n) (π := π) (g := g) (t := t) (bx := []) h
 rwa [List.append_nil] at this
theorem bZs {s : Bx} {p m k : Int} {n : Nat} {π : Nat → Nat} {g g0 t t0 : Nat → List Pd} (hS : look s 1750 = some (sC 1760 1780 p m k n)) (hG : look s 1760 = some (outL (owP 1001 n π) n)) (hg : Fam s 1001 g0) (hT : look s 1780 = some (outL (owP 1011 n fun i => i) n)) (ht : Fam s 1011 t0) (eg : ∀ j, j < 8 → PsLe (g0 j) (g j)) (et : ∀ j, j < 8 → PsLe (t0 j) (t j)) : subBx s (sbc p m k n π g t) := by
 have := subBx.sbx (l := []) hS hG hg hT ht eg et trivial
 rwa [List.append_nil] at this
theorem bZf {s : Bx} {p m k : Int} {n : Nat} {π : Nat → Nat} {g t : Nat → List Pd} (hn : n ≤ 8) (hπ : ∀ i, i < n → π i < 8) : LKeep s (sbc p m k n π g t) := by
 refine LKeep.all ?_
 have := lkAll.sbx (l := []) (full := sbc p m k n π g t) (bS := 1750) (bG := 1760) (dG := 1001) (bT := 1780) (dT := 1011) (p := p) (m := m) (k := k) (n := n) (π := π) (g := g) (t := t) (js0 rfl) (by
  have : look (sbc p m k n π g t) 1780 = some (outL (owP 1011 n fun i => i) n) := rfl
  rw [this]; simp) uG (fun j hj => eZz hj) (fun j hj => eZy hj) oM hn hπ rfl rfl trivial
 rwa [List.append_nil] at this
theorem dZp {b : Nat} {ps : List Pd} {l : Bx} {i : Nat} (h : look l i ≠ none) : look ((b, ps) :: l) i ≠ none := by rw [aZc]; split <;> simp; exact h
theorem jZZ {s : Bx} {b : Nat} {ps : List Pd} {p m k : Int} {n : Nat} {π : Nat → Nat} {g t : Nat → List Pd} (hn : n ≤ 8) (hπ : ∀ i, i < n → π i < 8) (hb : lk b = false := by rfl) : LKeep s ((b, ps) :: sbc p m k n π g t) := by
 refine LKeep.all ⟨.inl hb, ?_⟩
 have := lkAll.sbx (l := []) (full := (b, ps) :: sbc p m k n π g t) (bS := 1750) (bG := 1760) (dG := 1001) (bT := 1780) (dT := 1011) (p := p) (m := m) (k := k) (n := n) (π := π) (g := g) (t := t) (dZp (js0 rfl)) (dZp (by
  have : look (sbc p m k n π g t) 1780 = some (outL (owP 1011 n fun i => i) n) := rfl
  rw [this]; simp)) uG (fun j hj => dZp (eZz hj)) (fun j hj => dZp (eZy hj)) oM hn hπ rfl rfl trivial
 rwa [List.append_nil] at this
theorem retGc {P : Program} {fn : Func} {σ : St} {bx' : Bx} {t b k : Nat} {T : TypeId} {ps : List Pd} [ht : CRow P T k] (hf : fn.results = #[.cell t T]) (h1 : look σ.sl t = some (.ptr b 0)) (h2 : look σ.bx b = some ps) (hs : subBx σ.bx bx') (hk : LKeep σ.bx bx') (hl : Nat.beq ps.length k = true := by rfl) (hlk : lk b = false := by rfl) : RetG P fn σ (.one (aggP ps)) bx' := by
 refine ⟨⟨hs, hk⟩, fun En nn w0 h0 c h β u w hi hsl => ?_⟩
 obtain ⟨v, hv, hp⟩ := (RV.cell h1 h2 ht.ok hl hlk).run hi hsl
 exact ⟨v, by rw [bZD, hf]; simp [hv], hp, trivial⟩
theorem fFs {bx : Bx} {d : Nat} {f : Nat → List Pd} (h : Fam bx d f := by (try dsimp only); repeat (first | exact eZ3 _ _ _ | exact kZj _ _ | apply Fam.skipF (by rfl) | exact fZ5 rfl | exact fZ4 rfl | exact lZa rfl | exact kZZ rfl | apply Fam.skip (by rfl) | rw [List.cons_append] | rw [List.nil_append])) : Fam bx d f := h
end
end Go.Proofs.YtfmjdlogjmofbaaGreatDoor

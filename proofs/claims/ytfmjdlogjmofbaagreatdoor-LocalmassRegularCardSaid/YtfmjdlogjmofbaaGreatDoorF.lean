/- More of the abstract walk: constant slices of rows, slices that grow, arrays. For any program. -/
import Derived.Test.YtfmjdlogjmofbaaGreatDoorM
import Derived.Laws.BytesString
import Derived.Laws.Strings
import Derived.Test.YtfmjdlogjmofbaaGreatDoorW
set_option maxRecDepth 3000
namespace Go.Proofs.YtfmjdlogjmofbaaGreatDoor
section
open Go.RowKit Limb
def anyC : Pd := ⟨fun _ v => v.oneCell' = true, fun _ _ _ _ h => h⟩
class CRowZ (P : Program) (E : TypeId) (k : outParam Nat) (zs : outParam (List Value)) (bytes : outParam Nat) : Prop where
 ok : (P.info? E).map (fun i => (i.zero.map (·.cells), i.size, i.bytes)) = some (some zs.toArray, k, bytes) ∧ Nat.beq zs.length k = true ∧ zs.all (·.oneCell') = true
theorem CRowZ.get {P : Program} {E : TypeId} {k : Nat} {zs : List Value} {bytes : Nat} (h : CRowZ P E k zs bytes) : ∃ i z, P.info? E = some i ∧ i.zero = some z ∧ z.cells = zs.toArray ∧ i.size = k ∧ i.bytes = bytes ∧ zs.length = k ∧ ∀ v ∈ zs, v.oneCell' = true := by
 obtain ⟨h1, h2, h3⟩ := h.ok
 obtain ⟨i, e1, e2⟩ := Option.map_eq_some_iff.1 h1
 simp only [Prod.mk.injEq] at e2
 obtain ⟨e3, e4, e5⟩ := e2
 obtain ⟨z, e6, e7⟩ := Option.map_eq_some_iff.1 e3
 exact ⟨i, z, e1, e6, e7, e4, e5, Nat.eq_of_beq_eq_true h2, fun v hv => List.all_eq_true.1 h3 v hv⟩
theorem kZ0 {h : GH} : ∀ {vs : List Value}, (∀ v ∈ vs, v.oneCell' = true) → All2 h (List.replicate vs.length anyC) vs
 | [], _ => trivial
 | v :: vs, hv => ⟨hv v (by simp), hv v (by simp), kZ0 fun u hu => hv u (by simp [hu])⟩
theorem iZm {h : GH} {zs : List Value} (hz : ∀ v ∈ zs, v.oneCell' = true) : ∀ m, All2 h (List.replicate m (zs.map ex)).flatten (List.replicate m zs).flatten
 | 0 => trivial
 | m + 1 => by rw [List.replicate_succ, List.replicate_succ, List.flatten_cons, List.flatten_cons]; exact (eZ7 hz).append (iZm hz m)
theorem eZK {pl : Nat → Option (Nat × Nat)} : ∀ {ps : List (Nat × List Pd)} {cs rs : List Pd}, gZW pl cs ps = some rs → rs.length = cs.length
 | [], cs, rs, h => by cases h; rfl
 | (i, ps) :: r, cs, rs, h => by
  unfold gZW at h
  cases hp : pl i with
  | none => rw [hp] at h; cases h
  | some x =>
   obtain ⟨off, size⟩ := x
   rw [hp] at h
   simp only at h
   cases hc : Nat.beq ps.length size && Nat.ble (off + size) cs.length with
   | false => rw [hc] at h; cases h
   | true => rw [hc] at h; rw [eZK h, dZF]
theorem gZd (zs : List Value) (k : Nat) (hk : zs.length = k) : ∀ m, madeCells zs.toArray (m * k) = (List.replicate m zs).flatten.toArray := by
 intro m
 apply Array.ext'
 simp only [madeCells, Array.toList_map, Array.toList_range]
 induction m with
 | zero => simp
 | succ m ih =>
  rw [List.replicate_succ', List.flatten_append, ← ih, Nat.succ_mul, List.range_add, List.map_append]
  congr 1
  simp only [List.flatten_cons, List.flatten_nil, List.append_nil, List.map_map]
  apply List.ext_getElem
  ·simp [hk]
  ·intro i h1 h2
   have hi : i < k := by simpa using h1
   have hz : (m * k + i) % zs.length = i := by rw [hk, Nat.add_comm, Nat.add_mul_mod_self_right, Nat.mod_eq_of_lt hi]
   simp only [List.getElem_map, List.getElem_range, Function.comp_apply, List.size_toArray]
   rw [hz]
   simp [h2]
section
variable {P : Program} {En : Ev} {n : Nat} {sl : Sl} {bx : Bx} {dst : Option Tmp} {ty : TypeId} {pos : String} {after : Array Edge} {guard : Option (Nat × Bool)}
theorem aZm {T E : TypeId} {x ix : Operand} {k m i : Nat} {ps : List Pd} {kk : IntKind} [hT : CElem P T E k] (hx : osd sl x = some (.one (slc k ps m))) (hi : osd sl ix = some (.one (ex (.int kk (i : Int))))) (hy : i < m) {qs : List Pd} (hq : (ps.drop (i * k)).take k = qs) (hk : Nat.blt 0 k = true := by rfl) :
  RT P En n ⟨dst, .indexAddr T x ix, ty, pos, after, guard⟩ sl bx ⟨.one (cpR qs), [], []⟩ :=
 RT.pure fun ρ h β bx' H => by
  subst hq
  obtain ⟨a, cap, h1, h2, h3, h4, h5, h6⟩ : (slc k ps m).p h (ρ x) := (H x (by simp [Op.operands]) _ hx).1
  have h7 : ρ ix = .int kk (i : Int) := (H ix (by simp [Op.operands]) _ hi).1
  have hk : 0 < k := Nat.le_of_ble_eq_true hk
  have hpos : 0 < m * k := Nat.mul_pos oM hk
  obtain ⟨b, off, vs, rfl, ha, hc⟩ := h6 (by rintro rfl; simp at h5; omega)
  refine ⟨.pointer (some ⟨b, off + i * k, none⟩), fun w _ => ?_, ⟨b, off + i * k, (vs.drop (i * k)).take k, rfl, (ha.drop _).take _, fun j u hu => ?_⟩, trivial⟩
  ·simp only [execOp, h1, h7, Sem.run_bind, dZh hT b off m cap kk hy w, Result.andThen_ok, Sem.run_pure]
  ·rw [List.getElem?_take] at hu
   split at hu
   ·rw [Nat.add_assoc]; exact hc _ _ (by simpa using hu)
   ·cases hu
theorem kZE {T E : TypeId} {x ix : Operand} {k m j : Nat} {ps : List Pd} {kk : IntKind} [hT : CElem P T E k] (hx : osd sl x = some (.one (slc k ps m))) (hi : osd sl ix = some (.one (ex (.int kk (j : Int))))) (hj : j ≤ m) {qs : List Pd} (hq : ps.take (j * k) = qs) :
  RT P En n ⟨dst, .slice T x none (some ix) none, ty, pos, after, guard⟩ sl bx ⟨.one (slc k qs j), [], []⟩ :=
 RT.pure fun ρ h β bx' H => by
  subst hq
  obtain ⟨a, cap, h1, h2, h3, h4, h5, h6⟩ : (slc k ps m).p h (ρ x) := (H x (by simp [Op.operands]) _ hx).1
  have h7 : ρ ix = .int kk (j : Int) := (H ix (by simp [Op.operands]) _ hi).1
  have hle : j * k ≤ m * k := Nat.mul_le_mul_right _ hj
  refine ⟨.slice a j cap, fun w _ => ?_, ⟨a, cap, rfl, oM, h3, h4, by simp; omega, fun hn => ?_⟩, trivial⟩
  ·simp only [execOp, Option.map_none, Option.map_some, h1, h7, Sem.run_bind, jZs hT a m cap none (some (.int kk (j : Int))) 0 j w (lZH _ _ _ oM w), Result.andThen_ok, Sem.run_pure]
   have : (if cap = 0 then a else a.map (·.add (0 * k))) = a := by
    split
    ·rfl
    ·cases a with
     | none => rfl
     | some ad => simp [Addr.add]
   rw [this]; rfl
  ·obtain ⟨b, off, vs, e, ha, hc⟩ := h6 (by rintro rfl; simp at hn)
   refine ⟨b, off, vs.take (j * k), e, ha.take _, fun i u hu => ?_⟩
   rw [List.getElem?_take] at hu
   split at hu
   ·exact hc _ _ hu
   ·cases hu
theorem gZk {T E : TypeId} {xs : List (Nat × Operand)} {ps : List (Nat × List Pd)} {len k bytes : Nat} {zs : List Value} {rs : List Pd} (hT : CElem P T E k) (hz : CRowZ P E k zs bytes) (hp : eZu sl xs ps) (hf : gZW (fun i => some (i * k, k)) (List.replicate (len * k) anyC) ps = some rs) (hm : len * k ≤ 1000) (hpos : 0 < len * k)
  {ρ : Operand → Value} {h : GH} {β : Nat → Nat} {bx' : Bx} (H : ∀ x ∈ xs, ∀ s, osd sl x.2 = some s → s.ok h β (ρ x.2) ∧ s.live bx') :
  ∃ us : List Value, All2 h rs us ∧ us.length = len * k ∧ ∀ w, (execOp ρ ⟨dst, .buildSlice T len xs.toArray, ty, pos, after, guard⟩).run P w = .ok (.value (.slice (some ⟨w.heap.size, 0, none⟩) len len)) (w.alloc (.cells us.toArray E)) := by
 obtain ⟨inf, z, q1, q2, q3, q4, q5, q6, q7⟩ := hz.get
 have hfl : ∀ v ∈ (List.replicate len zs).flatten, v.oneCell' = true := fun v hv => by
  obtain ⟨l, hl, hv⟩ := List.mem_flatten.1 hv
  rw [(List.mem_replicate.1 hl).2] at hv
  exact q7 v hv
 have hlen : (List.replicate len zs).flatten.length = len * k := by simp [q6]
 have hbase := kZ0 (h := h) hfl
 rw [hlen] at hbase
 obtain ⟨us, u1, u2⟩ := iZP (ρ := ρ) (β := β) (bx' := bx') hp H hf hbase
 refine ⟨us, u2, by rw [← u2.length, eZK hf]; simp, fun w => ?_⟩
 have hmap : (xs.toArray.map fun x => (x.1, ρ x.2)).toList = xs.map fun x => (x.1, ρ x.2) := by simp
 have hlim : ¬ (len * k > 2 ^ 24) := oM
 have h0 : ¬ len * k = 0 := oM
 have hmade := gZd zs k q6 len
 unfold madeCells at hmade
 simp only [execOp, Instr.buildSlice, Sem.run_bind, run_underlying hT.ok.1, Result.andThen_ok, sizeOf, run_typeInfo _ q1, q4, if_neg hlim, if_neg h0, Sem.run_pure, zeroValue, q2, q3]
 rw [hmap, hmade, u1]
 rfl
theorem aZ5 {T E : TypeId} {xs : List (Nat × Operand)} {ps : List (Nat × List Pd)} {len k bytes : Nat} {zs : List Value} {rs : List Pd} [hT : CElem P T E k] [hz : CRowZ P E k zs bytes] (hp : eZu sl xs ps) (hf : gZW (fun i => some (i * k, k)) (List.replicate (len * k) anyC) ps = some rs) (hm : Nat.ble (len * k) 1000 = true) (hpos : Nat.blt 0 (len * k) = true) :
  RT P En n ⟨dst, .buildSlice T len xs.toArray, ty, pos, after, guard⟩ sl bx ⟨.one (slc k rs len), [], []⟩ := by
 intro sl' bx' h1 _ _ w0 h0 c h β a w Q hi hs
 obtain ⟨us, u1, u2, u3⟩ := gZk (dst := dst) (ty := ty) (pos := pos) (after := after) (guard := guard) hT hz hp hf (Nat.le_of_ble_eq_true hm) (Nat.le_of_ble_eq_true hpos) (ρ := a.eval) (h := h) (β := β) (bx' := bx') (fun x hx s hxs => aZI hs (by rw [h1 x.2 (by simp [Op.operands]; exact ⟨x.1, hx⟩)]; exact hxs))
 obtain ⟨hinv, hle⟩ := hi.allocC us E
 have hpos : 0 < len * k := Nat.le_of_ble_eq_true hpos
 have hlen : len ≤ 1000 := by
  have := Nat.le_of_ble_eq_true hm
  have : 0 < k := Nat.pos_of_mul_pos_left hpos
  have : len * 1 ≤ len * k := Nat.mul_le_mul_left _ this
  omega
 unfold Oper.wp
 rw [u3 w]
 refine ⟨_, _, β, rfl, hinv, hle, fun _ _ => rfl, ⟨some ⟨w.heap.size, 0, none⟩, len, rfl, Nat.le_refl _, by unfold maxLen; omega, (fun h => by cases h), by rw [u1.length, u2], fun _ => ⟨w.heap.size, 0, us, rfl, u1.mono hle, fun j u hu => ?_⟩⟩, trivial⟩
 rw [Nat.zero_add, dZc]
 exact hu
theorem Inv.allocA {w0 : World} {h0 : GH} {c : Cx} {h : GH} {β : Nat → Nat} {w : World} (hi : Inv En w0 h0 c h β bx w) (d : Nat) (hd1 : 500 ≤ d) (hd2 : d < 750) {ps : List Pd} {vs rest : List Value} (ha : All2 h ps vs) (T : TypeId) {g : Nat} {w' : World} (hh : Holds h w') (hbel : BelowM c.M w0 w') (hg : w0.heap.size ≤ g) (hgh : ∀ o, h g o = none) (hcell : w'.heap[g]? = some (.cells (tI d β vs ++ rest).toArray T (0, 0))) (hlr : fZu d β bx vs) (hnd : look bx d = none) (hnd2 : look bx (d + 250) = none)
  (hold : ∀ j qs, look bx j = some qs → qs ≠ [] → β j ≠ g ∧ w'.heap[β j]? = w.heap[β j]?) :
  Inv En w0 h0 c h (upd (upd β d g) (d + 250) (vs ++ rest).length) ((d, ps) :: (d + 250, []) :: bx) w' := by
 have e0 : upd (upd β d g) (d + 250) (vs ++ rest).length d = g := by rw [aZ3 oM, aZZ]
 have e1 : upd (upd β d g) (d + 250) (vs ++ rest).length (d + 250) = (vs ++ rest).length := aZZ
 have e2 : ∀ j, j ≠ d → j ≠ d + 250 → upd (upd β d g) (d + 250) (vs ++ rest).length j = β j := fun j h1 h2 => by rw [aZ3 h2, aZ3 h1]
 have src : ∀ j qs, look ((d, ps) :: (d + 250, []) :: bx) j = some qs → qs ≠ [] → (j = d ∧ qs = ps) ∨ (j ≠ d ∧ j ≠ d + 250 ∧ look bx j = some qs) := fun j qs hj hq => by
  rw [aZc, aZc] at hj
  split at hj
  ·rename_i e; cases hj; exact .inl ⟨e.symm, rfl⟩
  ·rename_i e
   split at hj
   ·cases hj; exact absurd rfl hq
   ·rename_i e'; exact .inr ⟨fun h => e h.symm, fun h => e' h.symm, hj⟩
 have live : ∀ {qs : List Pd}, ∀ i, look bx i ≠ none → look ((d, qs) :: (d + 250, []) :: bx) i ≠ none ∧ upd (upd β d g) (d + 250) (vs ++ rest).length i = β i := fun {qs} i hi' => ⟨by rw [aZc, aZc]; split <;> (try split) <;> simp; exact hi', e2 i (by rintro rfl; exact hi' hnd) (by rintro rfl; exact hi' hnd2)⟩
 refine ⟨hi.env, hh, hi.le0, hi.fresh, hbel, hi.dis, fun j hj => ?_, fun j qs hj hq => ?_, fun i j qs rs hi' hq hj' hr e => ?_⟩
 ·rw [e2 j oM oM]; exact hi.pin j hj
 ·rcases src j qs hj hq with ⟨rfl, rfl⟩ | ⟨n1, n2, hj⟩
  ·rw [e0]
   obtain ⟨k1, k2⟩ := bZE hlr (live (qs := qs))
   exact ⟨⟨fun _ => hg, fun h => absurd h oM⟩, hgh, vs, rest, T, by rw [k2]; exact hcell, ha, fun _ => e1.symm, k1⟩
  ·rw [e2 j n1 n2]
   obtain ⟨r0, r1, us, rs, T', r2, r3, r4, r5⟩ := hi.box j qs hj hq
   obtain ⟨k1, k2⟩ := bZE r5 (live (qs := ps))
   exact ⟨r0, r1, us, rs, T', by rw [(hold j qs hj hq).2, k2]; exact r2, r3, fun hg => by rw [e2 _ (by have := hg.1; omega) oM]; exact r4 hg, k1⟩
 ·rcases src i qs hi' hq with ⟨ei, _⟩ | ⟨n1, n2, hi2⟩ <;> rcases src j rs hj' hr with ⟨ej, _⟩ | ⟨m1, m2, hj2⟩
  ·rw [ei, ej]
  ·rw [ei, e0, e2 j m1 m2] at e
   exact absurd e.symm (hold j rs hj2 hr).1
  ·rw [ej, e0, e2 i n1 n2] at e
   exact absurd e (hold i qs hi2 hq).1
  ·rw [e2 i n1 n2, e2 j m1 m2] at e
   exact hi.inj i j _ _ hi2 hq hj2 hr e
theorem dZG {α : Type} : ∀ (us vs rest : List α), us.length ≤ rest.length → putL (vs ++ rest) vs.length us = vs ++ us ++ rest.drop us.length
 | [], vs, rest, _ => by simp [putL]
 | u :: us, vs, [], h => by simp at h
 | u :: us, vs, r :: rest, h => by
  simp only [putL]
  rw [show (vs ++ r :: rest).set vs.length u = (vs ++ [u]) ++ rest by simp]
  have := dZG us (vs ++ [u]) rest (by simpa using h)
  rw [List.length_append, List.length_singleton] at this
  rw [this]; simp
def idA (d : Nat) : Bool := Nat.ble 500 d && Nat.blt d 700
theorem kZc {d : Nat} (h : idA d = true) : 500 ≤ d ∧ d < 750 := by
 unfold idA at h
 rw [Bool.and_eq_true] at h
 have : d < 700 := Nat.le_of_ble_eq_true h.2
 exact ⟨Nat.le_of_ble_eq_true h.1, oM⟩
theorem mZL {d : Nat} (h : idA d = true) : lk d = false := by
 unfold idA at h
 rw [Bool.and_eq_true] at h
 have h1 := Nat.le_of_ble_eq_true h.1
 have h2 : d < 700 := Nat.le_of_ble_eq_true h.2
 unfold lk
 rw [show Nat.blt d 500 = false by cases e : Nat.blt d 500; rfl; exact absurd (Nat.le_of_ble_eq_true e) oM, show Nat.ble 700 d = false by cases e : Nat.ble 700 d; rfl; exact absurd (Nat.le_of_ble_eq_true e) oM, show Nat.ble 1750 d = false by cases e : Nat.ble 1750 d; rfl; exact absurd (Nat.le_of_ble_eq_true e) oM]
 simp
theorem Inv.hlt {w0 : World} {h0 : GH} {c : Cx} {h : GH} {β : Nat → Nat} {w : World} (hi : Inv En w0 h0 c h β bx w) {j : Nat} {qs : List Pd} (hj : look bx j = some qs) (hq : qs ≠ []) : β j < w.heap.size := by
 obtain ⟨_, _, us, rs, T', h3, _⟩ := hi.box j qs hj hq
 exact aZM h3
theorem aZD {T E : TypeId} {s x : Operand} {b k len m bytes : Nat} {zs : List Value} {ps qs : List Pd} (d : Nat) [hT : CElem P T E k] [hz : CRowZ P E k zs bytes] (h1 : osd sl s = some (.app b k len)) (hb : look bx b = some ps) (hlen : ps.length = len * k) (h2 : osd sl x = some (.one (slc k qs m))) (hm : 0 < m) (hmax : len + m ≤ 1000000000) (hby : Nat.ble bytes 10000 = true) (hd : idA d = true) (hn : look bx d = none) (hn2 : look bx (d + 250) = none) (hbd : idA b = true) {rs : List Pd} (hr : ps ++ qs = rs) (hk0 : Nat.blt 0 k = true := by rfl) :
  RT P En n ⟨dst, .call ⟨.builtin .append, #[s, x], #[T, T]⟩, ty, pos, after, guard⟩ sl bx ⟨.app d k (len + m), [b], [(d, rs), (d + 250, []), (b, [])]⟩ := by
 subst hr
 intro sl' bx' g1 g2 g3 w0 h0 c h β a w Q hi hs
 obtain ⟨hd1, hd2⟩ := kZc hd
 obtain ⟨hb1, hb2⟩ := kZc hbd
 have hn' : look bx' d = none := by rw [g3 d (by simp)]; exact hn
 have hn2' : look bx' (d + 250) = none := by rw [g3 (d + 250) (by simp)]; exact hn2
 have hb' : look bx' b = some ps := by rw [g2 b (by simp)]; exact hb
 have hdb : d ≠ b := by rintro rfl; rw [hb] at hn; cases hn
 have hsv := (aZI hs (x := s) (sd := .app b k len) (by rw [g1 s (by simp [Op.operands, Call.operands])]; exact h1)).1
 obtain ⟨ao, capx, hx, x2, x3, x4, x5, x6⟩ : (slc k qs m).p h (a.eval x) := (aZI hs (x := x) (sd := .one (slc k qs m)) (by rw [g1 x (by simp [Op.operands, Call.operands])]; exact h2)).1
 obtain ⟨inf, z, q1, q2, q3, q4, q5, q6, q7⟩ := hz.get
 have hk0 : 0 < k := Nat.le_of_ble_eq_true hk0
 have hmk : 0 < m * k := Nat.mul_pos hm hk0
 obtain ⟨bb, off, us, rfl, hua, huc⟩ := x6 (by rintro rfl; simp at x5; omega)
 have hby := Nat.le_of_ble_eq_true hby
 have hul : us.length = m * k := by rw [← hua.length, x5]
 have hnews : ∀ j u, us[j]? = some u → w.cell? ((⟨bb, off, none⟩ : Addr).add j) = some u := fun j u hu => by rw [Addr.add_mid]; exact hi.holds _ _ _ (huc j u hu)
 have hbytes : (len + m) * bytes ≤ 140737488355328 := by
  have : (len + m) * bytes ≤ 1000000000 * 10000 := Nat.mul_le_mul hmax hby
  omega
 have h63 : len + m ≤ maxLen := by unfold maxLen; omega
 have hsz : z.cells.size = k := by rw [q3]; simp [q6]
 -- what is left to show, for the new block
 have done : ∀ (g cap : Nat) (w' : World) (vs rest : List Value) (T' : TypeId), (Builtin.append_ #[T, T] ty #[a.eval s, a.eval x]).run P w = .ok (.slice (some ⟨g, 0, none⟩) (len + m) cap) w' → All2 h ps vs →
   Holds h w' → BelowM c.M w0 w' → w0.heap.size ≤ g → (∀ o, h g o = none) → w'.heap[g]? = some (.cells (vs ++ us ++ rest).toArray T' (0, 0)) → (vs ++ us ++ rest).length = cap * k → len + m ≤ cap → cap ≤ maxLen →
   (∀ j qs, look bx' j = some qs → qs ≠ [] → j ≠ b → β j ≠ g ∧ w'.heap[β j]? = w.heap[β j]?) →
   Oper.wp P ⟨dst, .call ⟨.builtin .append, #[s, x], #[T, T]⟩, ty, pos, after, guard⟩ a w (fun a' w' => ∃ v h' β', a' = a.put dst v ∧ Inv En w0 h0 c h' β' ([(d, ps ++ qs), (d + 250, []), (b, [])] ++ bx') w' ∧ Le h h' ∧ (∀ i, look bx' i ≠ none → β' i = β i) ∧ (SD.app d k (len + m)).ok h' β' v ∧ (SD.app d k (len + m)).live ([(d, ps ++ qs), (d + 250, []), (b, [])] ++ bx')) Q := by
  intro g cap w' vs rest T' hrun hall hh hbel hg hgh hcell hsize hcap hcm hold
  have hi0 : Inv En w0 h0 c h β ((b, []) :: bx') w := by
   have src : ∀ j qs, look ((b, ([] : List Pd)) :: bx') j = some qs → qs ≠ [] → j ≠ b ∧ look bx' j = some qs := fun j qs hj hq => by
    rw [aZc] at hj
    split at hj
    ·cases hj; exact absurd rfl hq
    ·rename_i e; exact ⟨fun h => e h.symm, hj⟩
   exact ⟨hi.env, hi.holds, hi.le0, hi.fresh, hi.below, hi.dis, hi.pin, fun j qs hj hq => by
    obtain ⟨p1, p2, us, rs, T', p3, p4, p5, p6⟩ := hi.box j qs (src j qs hj hq).2 hq
    exact ⟨p1, p2, us, rs, T', p3, p4, p5, cZX p6 fun r hr => by rw [aZc]; split <;> simp; exact hr⟩, fun i j qs rs hi' hq hj' hr => hi.inj i j _ _ (src i qs hi' hq).2 hq (src j rs hj' hr).2 hr⟩
  have hI := hi0.allocA d hd1 hd2 (ps := ps ++ qs) (vs := vs ++ us) (rest := rest) (hall.append hua) T' hh hbel hg hgh (by rw [bZ3 (mZL hd)]; exact hcell) (bZd (mZL hd) _ _ _) (by rw [aZc, if_neg (by rintro rfl; exact hdb rfl)]; exact hn') (by rw [aZc, if_neg oM]; exact hn2') (fun j rs hj hr => by
   rw [aZc] at hj
   split at hj
   ·cases hj; exact absurd rfl hr
   ·rename_i e; exact hold j rs hj hr (fun h => e h.symm))
  unfold Oper.wp
  rw [cZm a s x T w hrun]
  refine ⟨_, h, _, rfl, hI, Le.refl _, fun j hj => ?_, .inr ⟨cap, ?_, oM, hcap, hcm, ?_⟩, ?_⟩
  ·rw [aZ3 (by rintro rfl; exact hj hn2'), aZ3 (by rintro rfl; exact hj hn')]
  ·rw [aZ3 oM, aZZ]
  ·rw [aZZ, hsize]
  ·exact ⟨by show look ((d, _) :: _) d ≠ none; rw [aZc, if_pos rfl]; simp, by show look ((d, _) :: (d + 250, []) :: _) (d + 250) ≠ none; rw [aZc, if_neg oM, aZc, if_pos rfl]; simp⟩
 have fresh : ∀ o, h w.heap.size o = none := fun o => by
  cases hh : h w.heap.size o with
  | none => rfl
  | some v => exact absurd (hi.holds.lt hh) (Nat.lt_irrefl _)
 have newb : ∀ (vs : List Value) (v' : Value) (w' : World), All2 h ps vs → (Builtin.append_ #[T, T] ty #[a.eval s, a.eval x]).run P w = .ok v' w' → w'.ownsRow w.heap.size E k v' (len + m) (vs ++ us) → w.grownBy w' none → Oper.wp P ⟨dst, .call ⟨.builtin .append, #[s, x], #[T, T]⟩, ty, pos, after, guard⟩ a w (fun a' w' => ∃ v h' β', a' = a.put dst v ∧ Inv En w0 h0 c h' β' ([(d, ps ++ qs), (d + 250, []), (b, [])] ++ bx') w' ∧ Le h h' ∧ (∀ i, look bx' i ≠ none → β' i = β i) ∧ (SD.app d k (len + m)).ok h' β' v ∧ (SD.app d k (len + m)).live ([(d, ps ++ qs), (d + 250, []), (b, [])] ++ bx')) Q := by
  intro vs v' w' hall hr hown hgrow
  obtain ⟨_, ⟨_, o2⟩ | ⟨g, cap, cur, rfl, o1, o2, o3, o4, o5, o6⟩⟩ := hown
  ·omega
  have hbel : Below w.heap.size w w' := ⟨hgrow.os, hgrow.tape, hgrow.output, hgrow.size, fun k hk => hgrow.block k hk (by simp)⟩
  refine done g cap w' vs (cur.toList.drop ((len + m) * k)) E hr hall (fun b o v e => by rw [hbel.cell (p := ⟨b, o, none⟩) (hi.holds.lt e)]; exact hi.holds b o v e) (hi.below.below hbel) (Nat.le_trans hi.below.size o1) (fun o => ?_) ?_ ?_ o3 o4 (fun j rs hj hr _ => ?_)
  ·cases hh : h g o with
   | none => rfl
   | some v => have := hi.holds.lt hh; omega
  ·rw [← o6, List.take_append_drop]; exact o2
  ·rw [← o6, List.take_append_drop]; simpa using o5
  ·have := hi.hlt hj hr
   exact ⟨oM, hbel.block _ this⟩
 rcases hsv with ⟨hsv, hl0⟩ | ⟨cap0, hsv, c1, c2, c3, c4⟩
 ·subst hl0
  have hp0 : ps = [] := List.length_eq_zero_iff.1 (by rw [hlen]; simp)
  obtain ⟨v', w', hr, hown, hgrow, _⟩ := run_append_own (P := P) w w.heap.size T ty E inf z k bytes hT.ok.1 q1 q2 q4 q5 hsz hk0 (.slice none 0 0) 0 [] (World.ownsRow_nil w _ E k) ⟨bb, off, none⟩ m capx us hul hnews (fun u hu => hua.one u hu) oM oM (Nat.le_refl _)
  exact newb [] v' w' (by rw [hp0]; trivial) (by rw [hsv, hx]; exact hr) (by simpa using hown) (by simpa [Value.ownBlock] using hgrow)
 ·have hps : ps ≠ [] := by rintro rfl; have : 0 < len * k := Nat.mul_pos c1 hk0; simp at hlen; omega
  obtain ⟨r0, r1, vs, rest, T', r2, r3, r4⟩ := hi.box0 b ps hb' hps (mZL hbd)
  have hsize := r4 ⟨hb1, hb2⟩
  rw [← c4] at hsize
  have hvl : vs.length = len * k := by rw [← r3.length, hlen]
  by_cases hroom : len + m ≤ cap0
  ·have hmul : len * k + m * k ≤ cap0 * k := by rw [← Nat.add_mul]; exact Nat.mul_le_mul_right _ hroom
   have hlt : ∀ j, j < us.length → len * k + j < (vs ++ rest).length := fun j hj => by rw [hsize]; omega
   have hcl : ∀ j, j < us.length → (w.cell? ⟨β b, 0 + len * inf.size + j, none⟩).isSome = true := fun j hj => by
    rw [q4, Nat.zero_add, cell_of_row w _ _ _ T' _ r2]
    have := hlt j hj
    simp only [List.getElem?_toArray, List.getElem?_eq_getElem this, Option.isSome_some]
   have hfz : ∀ j, j < us.length → w.frozen? ⟨β b, 0 + len * inf.size + j, none⟩ = false := fun j hj => by
    unfold World.frozen?; simp [r2]
   have hr := run_append_room_cells (P := P) w T ty E inf hT.ok.1 q1 (β b) 0 len cap0 ⟨bb, off, none⟩ m capx us (by rw [q4]; exact hul) hnews (fun u hu => hua.one u hu) hroom hcl hfz
   rw [q4, Nat.zero_add] at hr
   refine done (β b) cap0 _ vs (rest.drop us.length) T' (by rw [hsv, hx]; exact hr) r3 (fun b' o v e => ?_) (bZW (.inl (r0.1 oM)) _ _ _ hi.below) (r0.1 oM) r1 ?_ ?_ hroom c3 (fun j rs hj hr hne => ?_)
   ·have hbb : b' ≠ β b := by rintro rfl; rw [r1 o] at e; cases e
    rw [World.cell?_of_block (w := w) (a := ⟨b', o, none⟩) (aZ1 hbb _ _ _)]
    exact hi.holds b' o v e
   ·rw [bZJ us (len * k) w _ T' _ r2, ← hvl, dZG us vs rest (by simp at hsize; omega)]
   ·simp at hsize ⊢; omega
   ·have hne' : β j ≠ β b := fun e => hne (hi.inj _ _ _ _ hj hr hb' hps e)
    exact ⟨hne', aZ1 hne' _ _ _⟩
  ·obtain ⟨v', w', hr, hown, hgrow⟩ := run_append_arg_grows (P := P) w T ty E inf z k bytes hT.ok.1 q1 q2 q4 q5 hsz hk0 ⟨β b, 0, none⟩ len cap0 vs hvl (fun j u hu => by
    rw [Addr.add_mid, Nat.zero_add, cell_of_row w _ _ _ T' _ r2]
    have hlt := (List.getElem?_eq_some_iff.1 hu).1
    simpa [List.getElem?_append_left hlt] using hu) ⟨bb, off, none⟩ m capx us hul hnews oM h63 hbytes
   exact newb vs v' w' r3 (by rw [hsv, hx]; exact hr) hown hgrow
theorem dZi {T E : TypeId} {x ix : Operand} {b k len : Nat} {kk : IntKind} {i : Nat} [hT : CElem P T E k] (hx : osd sl x = some (.app b k len)) (hi : osd sl ix = some (.one (ex (.int kk (i : Int))))) (hy : i < len) {o : Nat} (ho : i * k = o) :
  RT P En n ⟨dst, .indexAddr T x ix, ty, pos, after, guard⟩ sl bx ⟨.ptr b o, [], []⟩ :=
 RT.pure fun ρ h β bx' H => by
  subst ho
  obtain ⟨h1, hl⟩ := H x (by simp [Op.operands]) _ hx
  have h6 : ρ ix = .int kk (i : Int) := (H ix (by simp [Op.operands]) _ hi).1
  rcases h1 with ⟨_, h1⟩ | ⟨cap, h1, _⟩
  ·omega
  ·refine ⟨.pointer (some ⟨β b, 0 + i * k, none⟩), fun w _ => ?_, by rw [Nat.zero_add]; rfl, hl.1⟩
   simp only [execOp, h1, h6, Sem.run_bind, dZh hT (β b) 0 len cap kk hy w, Result.andThen_ok, Sem.run_pure]
theorem cZQ {x : Operand} {T E : TypeId} {b k len : Nat} (hx : osd sl x = some (.app b k len)) (ht : P.underlying T = some (.slice E)) : RT P En n ⟨dst, .call ⟨.builtin .len, #[x], #[T]⟩, ty, pos, after, guard⟩ sl bx ⟨.one (ex (.int .i64 (len : Nat))), [], []⟩ :=
 RT.pure fun ρ h β bx' H => by
  have h1 := (H x (by simp [Op.operands, Call.operands]) _ hx).1
  refine ⟨.int .i64 (len : Nat), fun w _ => ?_, rfl, trivial⟩
  rcases h1 with ⟨hv, rfl⟩ | ⟨cap, hv, _⟩
  ·simp [execOp, resolve, invoke, builtin, Builtin.len_, hv, run_underlying ht, goInt]
  ·simp [execOp, resolve, invoke, builtin, Builtin.len_, hv, run_underlying ht, goInt]
theorem kZ9 {T E : TypeId} {x hx : Operand} {b k len : Nat} {kk' : IntKind} {j : Nat} [hT : CElem P T E k] (h1 : osd sl x = some (.app b k len)) (h3 : osd sl hx = some (.one (ex (.int kk' (j : Int))))) (hj : j ≤ len) (hj0 : 0 < j) :
  RT P En n ⟨dst, .slice T x none (some hx) none, ty, pos, after, guard⟩ sl bx ⟨.app b k j, [], []⟩ :=
 RT.pure fun ρ h β bx' H => by
  obtain ⟨e1, hl⟩ := H x (by simp [Op.operands]) _ h1
  have e3 : ρ hx = .int kk' (j : Int) := (H hx (by simp [Op.operands]) _ h3).1
  rcases e1 with ⟨_, e1⟩ | ⟨cap, e1, c1, c2, c3, c4⟩
  ·omega
  ·refine ⟨.slice (some ⟨β b, 0, none⟩) j cap, fun w _ => ?_, .inr ⟨cap, rfl, hj0, oM, c3, c4⟩, hl⟩
   simp only [execOp, Option.map_none, Option.map_some, e1, e3, Sem.run_bind, jZs hT _ len cap _ _ 0 j w (lZH _ _ _ oM w), Result.andThen_ok, Sem.run_pure]
   rw [Addr.add_mid]
   simp
theorem cZF {T E : TypeId} {x ix : Operand} {b o len cap k : Nat} {kk : IntKind} {i : Nat} [hT : CElem P T E k] (hx : osd sl x = some (.own b o len cap)) (hi : osd sl ix = some (.one (ex (.int kk (i : Int))))) (hy : i < len) {o' : Nat} (ho : o + i * k = o') :
  RT P En n ⟨dst, .indexAddr T x ix, ty, pos, after, guard⟩ sl bx ⟨.ptr b o', [], []⟩ :=
 RT.pure fun ρ h β bx' H => by
  subst ho
  obtain ⟨h1, hl⟩ := H x (by simp [Op.operands]) _ hx
  obtain ⟨cap', h1, hcc, hcm⟩ : ∃ cap', ρ x = .slice (some ⟨β b, o, none⟩) len cap' ∧ cap ≤ cap' ∧ cap' ≤ maxLen := h1
  have h6 : ρ ix = .int kk (i : Int) := (H ix (by simp [Op.operands]) _ hi).1
  refine ⟨.pointer (some ⟨β b, o + i * k, none⟩), fun w _ => ?_, rfl, hl⟩
  simp only [execOp, h1, h6, Sem.run_bind, dZh hT (β b) o len cap' kk hy w, Result.andThen_ok, Sem.run_pure]
theorem bZ7 {T E : TypeId} {x y : Operand} {kl kc : IntKind} {d m k bytes : Nat} {zs : List Value} [hT : CElem P T E k] [hz : CRowZ P E k zs bytes] (hx : osd sl x = some (.one (ex (.int kl (m : Int))))) (hy : osd sl y = some (.one (ex (.int kc (m : Int))))) (hd : Nat.blt d 400 = true) (hn : look bx d = none) (hm : m ≤ 1000000000) (hby : Nat.ble bytes 10000 = true) (hk : Nat.ble k 10000 = true) :
  RT P En n ⟨some d, .makeSlice T x y, ty, pos, after, guard⟩ sl bx ⟨.own d 0 m m, [], [(d, (List.replicate m (zs.map ex)).flatten)]⟩ := by
 intro sl' bx' h1 _ h3 w0 h0 c h β a w Q hi hs
 have hd : d < 400 := Nat.le_of_ble_eq_true hd
 have hn' : look bx' d = none := by rw [h3 d (by simp)]; exact hn
 have e1 : a.eval x = .int kl (m : Int) := (aZI hs (x := x) (sd := .one (ex (.int kl (m : Int)))) (by rw [h1 x (by simp [Op.operands])]; exact hx)).1
 have e2 : a.eval y = .int kc (m : Int) := (aZI hs (x := y) (sd := .one (ex (.int kc (m : Int)))) (by rw [h1 y (by simp [Op.operands])]; exact hy)).1
 obtain ⟨inf, z, q1, q2, q3, q4, q5, q6, q7⟩ := hz.get
 have hby := Nat.le_of_ble_eq_true hby
 have hk := Nat.le_of_ble_eq_true hk
 have h8 : bytes * m ≤ 10000 * 1000000000 := Nat.mul_le_mul hby hm
 have h9 : ((bytes * m : Nat) : Int) ≤ 281474976710656 := oM
 rw [Int.natCast_mul] at h9
 have hr := run_make (P := P) w T E inf z hT.ok.1 q1 q2 kl kc m m oM (Int.le_refl _) (by rw [q5]; exact h9) oM
 rw [q4, Int.toNat_natCast, q3, gZd zs k q6] at hr
 have hall : All2 h (List.replicate m (zs.map ex)).flatten (List.replicate m zs).flatten := iZm q7 m
 unfold Oper.wp
 have hrun : (execOp a.eval ⟨some d, .makeSlice T x y, ty, pos, after, guard⟩).run P w = .ok (.value (.slice (some ⟨w.heap.size, 0, none⟩) m m)) (w.alloc (.cells (List.replicate m zs).flatten.toArray E)) := by
  simp only [execOp, e1, e2, Sem.run_bind, hr, Result.andThen_ok, Sem.run_pure]
 rw [hrun]
 refine ⟨_, h, upd β d w.heap.size, rfl, hi.alloc d hd hn' hall E, Le.refl _, fun j hj => ?_, ?_, ?_⟩
 ·exact aZ3 (by rintro rfl; exact hj hn')
 ·exact ⟨m, by rw [aZZ], Nat.le_refl _, by unfold maxLen; omega⟩
 ·show look ((d, _) :: bx') d ≠ none; rw [aZc, if_pos rfl]; simp
end
end
section
open Go.RowKit Limb
theorem beqT {a b : Int} (h : a = b) : (a == b) = true := by simp [h]
theorem beqF {a b : Int} (h : a ≠ b) : (a == b) = false := by simp [h]
theorem bneT {a b : Int} (h : a ≠ b) : (a != b) = true := by simp [h]
theorem bneF {a b : Int} (h : a = b) : (a != b) = false := by simp [h]
class CArr (P : Program) (T : TypeId) (len : outParam Nat) (E : outParam TypeId) (k : outParam Nat) : Prop where
 ok : P.underlying T = some (.array len E) ∧ (P.info? E).map (·.size) = some k
class CStr (P : Program) (T : TypeId) : Prop where
 ok : P.underlying T = some .string
section
variable {P : Program} {En : Ev} {n : Nat} {sl : Sl} {bx : Bx} {dst : Option Tmp} {ty : TypeId} {pos : String} {after : Array Edge} {guard : Option (Nat × Bool)}
theorem aZe {x : Operand} {b o : Nat} (hx : osd sl x = some (.ptr b o)) : RT P En n ⟨dst, .nilCheck x, ty, pos, after, guard⟩ sl bx ⟨.ptr b o, [], []⟩ :=
 RT.pure fun ρ h β bx' H => by
  obtain ⟨h1, h2⟩ := H x (by simp [Op.operands]) _ hx
  have h1 : ρ x = .pointer (some ⟨β b, o, none⟩) := h1
  exact ⟨ρ x, fun w _ => by simp only [execOp, h1]; rfl, h1, h2⟩
end
section
variable {P : Program} (w : World)
theorem iZ0 {T : TypeId} (_hT : P.underlying T = some .string) (x y : Operand) (a b : ByteArray) : (do eqGuard .eql T x y (.string a) (.string b); Go.binOp .eql T (.string a) (.string b) : Sem Value).run P w = .ok (.bool (a.toList == b.toList)) w := by
 simp [eqGuard, binOp_string_eql]
theorem jZu {T : TypeId} (_hT : P.underlying T = some .string) (x y : Operand) (a b : ByteArray) (h : a.size + b.size ≤ 1000000) : (do eqGuard .add T x y (.string a) (.string b); Go.binOp .add T (.string a) (.string b) : Sem Value).run P w = .ok (.string (a ++ b)) w := by
 have : ¬ ((a.size + b.size : Nat) : Int) > IntKind.i64.max := by simp [IntKind.max, IntKind.bits]; omega
 simp only [eqGuard, binOp_string_add, Op.stringOp, if_neg this]
 simp
end
def byt (x : Nat) : Pd := ex (.int .u8 (x : Int))
instance (x : Nat) : C1 (byt x) := ⟨fun _ _ h => by rw [h]; rfl⟩
def txt (l : List Nat) : ByteArray := (l.map fun (x : Nat) => (x : Int)).foldl (fun r n => r.push (UInt8.ofNat n.toNat)) ByteArray.empty
theorem kZz {h : GH} : ∀ {l : List Nat} {vs : List Value}, All2 h (l.map byt) vs → vs = l.map fun (y : Nat) => Value.int .u8 (y : Int)
 | [], [], _ => rfl
 | x :: l, v :: vs, ⟨a, _, c⟩ => by have : v = .int .u8 (x : Int) := a; rw [this, kZz c]; rfl
 | [], _ :: _, h => h.elim
 | _ :: _, [], h => h.elim
section
variable {P : Program} {En : Ev} {n : Nat} {sl : Sl} {bx : Bx} {dst : Option Tmp} {ty : TypeId} {pos : String} {after : Array Edge} {guard : Option (Nat × Bool)}
theorem oZD {w : World} {b o : Nat} {vs : List Value} (h : w.rangeAt b o vs) : (loadCells ⟨b, o, none⟩ vs.length).run P w = .ok vs.toArray w := by
 exact run_loadCells_list w ⟨b, o, none⟩ vs (fun j v hj => by rw [Addr.add_mid]; exact h j v hj)
theorem lZI {S T E : TypeId} {x : Operand} {b len cap : Nat} {l : List Nat} (hS : P.underlying S = some (.slice E)) (hE : P.underlying E = some (.int .u8)) (hT : P.underlying T = some .string) (hx : osd sl x = some (.own b 0 len cap)) (hb : look bx b = some (l.map byt)) (hl : l.length = len) (h0 : 0 < len)(hlk : lk b = false := by rfl) :
  RT P En n ⟨dst, .convert S T x, ty, pos, after, guard⟩ sl bx ⟨.one (ex (.string (txt l))), [b], []⟩ := by
 subst hl
 intro sl' bx' h1 h2 _ w0 h0' c h β a w Q hi hs
 obtain ⟨cap', hx', _, _⟩ : ∃ cap', a.eval x = .slice (some ⟨β b, 0, none⟩) l.length cap' ∧ cap ≤ cap' ∧ cap' ≤ maxLen := (aZI hs (x := x) (sd := .own b 0 l.length cap) (by rw [h1 x (by simp [Op.operands])]; exact hx)).1
 obtain ⟨_, _, vs, rest, T', hg, ha, _⟩ := hi.box0 b _ (by rw [h2 b (by simp)]; exact hb) (by intro h; simp at h; subst h; simp at h0) hlk
 have hv := kZz ha
 have hr : w.rangeAt (β b) 0 vs := fZm hg (by simp)
 have hlc := oZD (P := P) hr
 have hlen : vs.length = l.length := by rw [hv]; simp
 rw [hlen, hv, show (l.map fun (y : Nat) => Value.int .u8 (y : Int)) = (l.map fun (x : Nat) => (x : Int)).map (Value.int .u8) by simp] at hlc
 unfold Oper.wp
 have : (execOp a.eval ⟨dst, .convert S T x, ty, pos, after, guard⟩).run P w = .ok (.value (.string (txt l))) w := by
  simp only [execOp, hx', Sem.run_bind, run_convert_bytes_string w S T E _ _ _ hS hE hT, run_bytesToString w _ _ _ _ hlc, Result.andThen_ok, Sem.run_pure]
  rfl
 rw [this]
 exact ⟨_, h, β, rfl, hi, Le.refl _, fun _ _ => rfl, rfl, trivial⟩
end
end
section
open Go.RowKit Limb
def WpS (P : Program) (En : Ev) (n : Nat) (w0 : World) (h0 : GH) (c : Cx) (ops : Array Oper) (l : List Nat) (K : St → Prop) (σ : St) : Prop :=
 ∀ (Q : Exit → Act → World → Prop) (a : Act) (w : World), Gam En n w0 h0 c σ a w → (∀ τ a' w', K τ → Gam En n w0 h0 c τ a' w' → Q .normal a' w') → wpOps P ops Q l a w
section
variable {P : Program} {En : Ev} {n : Nat} {w0 : World} {h0 : GH} {c : Cx} {ops : Array Oper} {l : List Nat} {σ τ : St}
theorem WpD.seqR {id : Nat} {K : Exit → St → Prop} (h : WpS P En n w0 h0 c ops (List.range ops.size) (K .normal) σ) : WpD P En n w0 h0 c (.region id ops false) K σ :=
 fun Q a w hg hQ => wp_region (h Q a w hg fun τ a' w' hk hg' => hQ .normal τ a' w' hk hg')
variable {K : St → Prop}
theorem WpS.nil (h : K σ) : WpS P En n w0 h0 c ops [] K σ := fun _ a w hg hQ => hQ σ a w h hg
theorem WpS.cons {i : Nat} {o : Oper} {e : Eff} (hi : ops[i]? = some o) (hd : ∀ d, o.dst = some d → d < n) (h : LT P En n ops o σ.sl σ.bx e) (t : WpS P En n w0 h0 c ops l K (upd1 σ o e)) : WpS P En n w0 h0 c ops (i :: l) K σ := by
 intro Q a w hg hQ
 obtain ⟨h', β, hinv, hslots⟩ := hg
 rw [wpOps_cons]
 unfold wpOp
 rw [hi]
 refine h σ.sl σ.bx (fun _ _ => rfl) (fun _ _ => rfl) (fun _ _ => rfl) w0 h0 c h' β a w Q hinv hslots _ (fun a' w' hh => ?_)
 obtain ⟨v, h'', β', rfl, q1, q2, q3, q4, q5⟩ := hh
 exact t Q _ _ (gZT hd hslots q1 q2 q3 q4 q5) hQ
theorem WpS.sub (hs : Sub σ τ) (h : WpS P En n w0 h0 c ops l K τ) : WpS P En n w0 h0 c ops l K σ := fun Q a w hg hQ => h Q a w (hs _ _ _ _ _ _ _ hg) hQ
theorem nZX {h : GH} {β : Nat → Nat} {a : Act} (hs : Slots n h β σ.sl σ.bx a) {t : Nat} (ht : t < n) : ∃ v, a.tmps[t]? = some v := by
 have : t < a.tmps.size := by rw [hs.size]; exact ht
 exact ⟨_, Array.getElem?_eq_getElem this⟩
theorem lZA {h : GH} {β : Nat → Nat} {a : Act} {t b : Nat} (hs : Slots n h β σ.sl σ.bx a) (ht : t < n) (hb : look σ.bx b ≠ none) : Slots n h β ((t, .pin b (β b)) :: σ.sl) σ.bx a := by
 refine ⟨hs.defers, hs.size, fun t' sd h' => ?_⟩
 rw [aZc] at h'
 split at h'
 ·rename_i e
  subst e
  cases h'
  obtain ⟨v, hv⟩ := nZX hs ht
  exact ⟨v, hv, rfl, hb⟩
 ·exact hs.slot t' sd h'
theorem WpD.pin {co : Code} {K : Exit → St → Prop} {t b : Nat} (ht : Nat.blt t n = true) (hb : look σ.bx b ≠ none) (h : ∀ x, WpD P En n w0 h0 c co K ⟨(t, .pin b x) :: σ.sl, σ.bx⟩) : WpD P En n w0 h0 c co K σ := by
 rintro Q a w ⟨h', β, hi, hs⟩ hQ
 exact h (β b) Q a w ⟨h', β, hi, lZA hs (Nat.le_of_ble_eq_true ht) hb⟩ hQ
def gvl (blk len cap : Nat) : Value := match len with
 | 0 => .slice none 0 0
 | len + 1 => .slice (some ⟨blk, 0, none⟩) (len + 1) cap
section
variable {sl : Sl} {bx : Bx}
theorem WpS.S {i d : Nat} {op : Op} {ty : TypeId} {pos : String} {after : Array Edge} {sd : SD} {rb : List Nat} {wb bx' : Bx} (hi : ops[i]? = some ⟨some d, op, ty, pos, after, none⟩) (hd : Nat.blt d n = true) (h : RT P En n ⟨some d, op, ty, pos, after, none⟩ sl bx ⟨sd, rb, wb⟩) (hb : wb ++ bx = bx') (t : WpS P En n w0 h0 c ops l K ⟨(d, sd) :: sl, bx'⟩) : WpS P En n w0 h0 c ops (i :: l) K ⟨sl, bx⟩ := by
 subst hb
 exact WpS.cons (σ := ⟨sl, bx⟩) hi (fun d' h' => by cases h'; exact Nat.le_of_ble_eq_true hd) (LT.plain rfl h) t
theorem WpS.N {i : Nat} {op : Op} {ty : TypeId} {pos : String} {after : Array Edge} {sd : SD} {rb : List Nat} {wb bx' : Bx} (hi : ops[i]? = some ⟨none, op, ty, pos, after, none⟩) (h : RT P En n ⟨none, op, ty, pos, after, none⟩ sl bx ⟨sd, rb, wb⟩) (hb : wb ++ bx = bx') (t : WpS P En n w0 h0 c ops l K ⟨sl, bx'⟩) : WpS P En n w0 h0 c ops (i :: l) K ⟨sl, bx⟩ := by
 subst hb
 exact WpS.cons (σ := ⟨sl, bx⟩) hi (fun d' h' => by cases h') (LT.plain rfl h) t
end
end
instance (blk len cap : Nat) : C1 (ex (gvl blk len cap)) := ⟨fun _ _ h => by rw [h]; cases len <;> rfl⟩
end
section
open Go.RowKit Limb
section
variable {P : Program} {En : Ev} {n : Nat} {w0 : World} {h0 : GH} {c : Cx} {K : Exit → St → Prop} {σ : St} {full rest : List Oper} {acc : List Eff} {sl : Sl} {bx : Bx}
end
theorem AllV.append {h : GH} : ∀ {ps qs : List Pd} {us vs : List Value}, AllV h ps us → AllV h qs vs → AllV h (ps ++ qs) (us ++ vs)
 | [], _, [], _, _, k => k
 | _ :: _, _, _ :: _, _, ⟨a, b⟩, k => ⟨a, AllV.append b k⟩
 | [], _, _ :: _, _, h, _ => h.elim
 | _ :: _, _, [], _, h, _ => h.elim
def cl (f : FuncId) (cs : List (List Pd)) : Pd := ⟨fun h v => ∃ us : List Value, v = .func (.func f) #[] us.toArray ∧ AllV h (cs.map cpR) us, fun _ _ _ hl ⟨us, e, a⟩ => ⟨us, e, a.mono hl⟩⟩
instance (f : FuncId) (cs : List (List Pd)) : C1 (cl f cs) := ⟨fun _ _ ⟨_, e, _⟩ => by rw [e]; rfl⟩
section
variable {P : Program} {En : Ev} {n : Nat} {sl : Sl} {bx : Bx} {dst : Option Tmp} {ty : TypeId} {pos : String} {after : Array Edge} {guard : Option (Nat × Bool)}
end
section
variable {σ : St}
theorem All2.last {h : GH} {p : Pd} : ∀ {ps : List Pd} {vs : List Value}, All2 h (ps ++ [p]) vs → ∃ us u, vs = us ++ [u] ∧ All2 h ps us ∧ p.p h u ∧ u.oneCell' = true
 | [], [u], ⟨a, b, _⟩ => ⟨[], u, rfl, trivial, a, b⟩
 | [], [], h => h.elim
 | [], _ :: _ :: _, ⟨_, _, h⟩ => h.elim
 | _ :: _, [], h => h.elim
 | _ :: ps, v :: vs, ⟨a, b, r⟩ => by
  obtain ⟨us, u, e, k1, k2, k3⟩ := All2.last r
  exact ⟨v :: us, u, by rw [e]; rfl, ⟨a, b, k1⟩, k2, k3⟩
end
end
section
open Go.RowKit Limb
section
variable {P : Program} {En : Ev} {n : Nat} {ops : Array Oper} {Q : Exit → Act → World → Prop} {w0 : World} {h0 : GH} {c : Cx} {D : List Nat}
end
section
variable {P : Program} {En : Ev} {n : Nat} {w0 : World} {h0 : GH} {c : Cx} {ops : Array Oper} {l : List Nat} {σ : St} {sl : Sl} {bx : Bx} {dst : Option Tmp} {ty : TypeId} {pos : String} {after : Array Edge} {guard : Option (Nat × Bool)}
end
end
end Go.Proofs.YtfmjdlogjmofbaaGreatDoor

/- Places in matrices; a row gets its number; what may be dropped. For any program. -/
import Derived.Test.YtfmjdlogjmofbaaGreatDoorKb
import Derived.Test.YtfmjdlogjmofbaaGreatDoorMem
import Derived.Test.YtfmjdlogjmofbaaGreatDoorLeast
import Derived.Test.YtfmjdlogjmofbaaGreatDoorW
set_option maxRecDepth 3000
namespace Go.Proofs.YtfmjdlogjmofbaaGreatDoor
section
open Go.RowKit Limb
theorem Fam.skip {bx : Bx} {d i : Nat} {f : Nat → List Pd} {ps : List Pd} (h : (ids d).all (fun j => !Nat.beq i j) = true) (hf : Fam bx d f) : Fam ((i, ps) :: bx) d f := fun j hj => by
 have := List.all_eq_true.1 h _ (bZ4 hj)
 rw [aZc, if_neg (by rintro rfl; simp at this)]
 exact hf j hj
theorem Fam.skipF {bx : Bx} {d d' : Nat} {f f' : Nat → List Pd} (h : (Nat.ble (d' + 8) d || Nat.ble (d + 8) d') = true) (hf : Fam bx d f) : Fam (rws d' f' ++ bx) d f := fun j hj => by
 rw [Bool.or_eq_true] at h
 rw [bZV, if_neg (by rcases h with h | h <;> have := Nat.le_of_ble_eq_true h <;> omega)]
 exact hf j hj
theorem Fam.mbx {b d n m : Nat} {π : Nat → Nat} {g : Nat → List Pd} {bx : Bx} (h : (ids d).all (fun j => !Nat.beq b j) = true) : Fam (mbx b d π n m g ++ bx) d g := Fam.skip h (eZ3 d g bx)
theorem kZj (d : Nat) (f : Nat → List Pd) : Fam (rws d f) d f := by have := eZ3 d f []; rwa [List.append_nil] at this
theorem fFm {bx : Bx} {d : Nat} {f : Nat → List Pd} (h : Fam bx d f := by (try dsimp only); (try unfold mbx); (try rw [List.cons_append]); (try rw [List.nil_append]); repeat (first | exact eZ3 _ _ _ | exact kZj _ _ | apply Fam.skip (by rfl) | apply Fam.skipF (by rfl))) : Fam bx d f := h
theorem cZu {d : Nat} {f : Nat → List Pd} (i : Nat) : look (rws d f) i = if d ≤ i ∧ i < d + 8 then some (f (i - d)) else none := by have := bZV (d := d) (f := f) (bx := []) i; rwa [List.append_nil] at this
section
variable {P : Program} {En : Ev} {nn : Nat} {sl : Sl} {bx : Bx} {dst : Option Tmp} {ty : TypeId} {pos : String} {after : Array Edge} {guard : Option (Nat × Bool)}
theorem aZd {T E : TypeId} {x ix : Operand} {b len cap k : Nat} {kk : IntKind} {i : Nat} [hT : CElem P T E k] (hx : osd sl x = some (.own b 0 len cap)) (hi : osd sl ix = some (.one (ex (.int kk (i : Int))))) (hy : i < len) :
  RT P En nn ⟨dst, .indexAddr T x ix, ty, pos, after, guard⟩ sl bx ⟨.ptr b (i * k), [], []⟩ := cZF hx hi hy (Nat.zero_add _)
theorem aZt {T : TypeId} {x : Operand} {b i n r len cap : Nat} {g : Nat → Pd} [COne P T] (hx : osd sl x = some (.ptr b (i * 1))) (hb : look bx b = some (outL g n)) (hi : i < n) (hg : g i = ownP r 0 len cap) (hng : ¬ grows r) (hl : lk b = true := by rfl) :
  RT P En nn ⟨dst, .load T x, ty, pos, after, guard⟩ sl bx ⟨.own r 0 len cap, [b], []⟩ := aZx hx hb (by rw [Nat.mul_one, gZG hi, hg]) hng hl
theorem bZw {T : TypeId} {x y : Operand} {b i n r len cap : Nat} {g : Nat → Pd} [COne P T] (hx : osd sl x = some (.ptr b (i * 1))) (hy : osd sl y = some (.own r 0 len cap)) (hb : look bx b = some (outL g n)) (hi : i < n) (hng : ¬ grows r) (hl : lk b = true := by rfl) :
  RT P En nn ⟨dst, .store T x y, ty, pos, after, guard⟩ sl bx ⟨.one (ex undef), [b], [(b, outL (fun j => if j = i then ownP r 0 len cap else g j) n)]⟩ := fZk (o := i * 1) hx hy hb (by rw [bZc, Nat.mul_one]; exact hi) hng (by rw [Nat.mul_one, dZz hi]) hl
theorem cZO {T : TypeId} {x : Operand} {d r c k m : Nat} {f e : Nat → List Pd} [ht : CRow P T k] (hx : osd sl x = some (.ptr (d + r) (c * k))) (hf : Fam bx d f) (hr : r < 8) (he : f r = rowL e m) (hc : c < m) (hl : ∀ c, c < m → (e c).length = k) (hn : nolk d = true := by rfl) :
  RT P En nn ⟨dst, .load T x, ty, pos, after, guard⟩ sl bx ⟨.one (aggP (e c)), ids d, []⟩ :=
 oZo hx hf hr (by rw [he, bZj hl, ← Nat.succ_mul]; exact Nat.mul_le_mul_right _ oM) (by rw [he]; exact bZT hl hc) hn
theorem eZp {T : TypeId} {x y : Operand} {d r c k m : Nat} {f e : Nat → List Pd} {qs : List Pd} [ht : CRow P T k] (hx : osd sl x = some (.ptr (d + r) (c * k))) (hy : osd sl y = some (.one (aggP qs))) (hf : Fam bx d f) (hr : r < 8) (he : f r = rowL e m) (hc : c < m) (hl : ∀ c, c < m → (e c).length = k) (hq : Nat.beq qs.length k = true := by rfl) (hpos : Nat.blt 0 k = true := by rfl) (hn : nolk d = true := by rfl) :
  RT P En nn ⟨dst, .store T x y, ty, pos, after, guard⟩ sl bx ⟨.one (ex undef), ids d, rws d (updF f r (rowL (fun j => if j = c then qs else e j) m))⟩ :=
 rf_setR hx hy hf hr hq (by rw [he, bZj hl, ← Nat.succ_mul]; exact Nat.mul_le_mul_right _ oM) (by rw [he]; exact gZ9 (Nat.eq_of_beq_eq_true hq) hl hc) hpos hn
theorem aZ8 {T : TypeId} {x : Operand} {d r c m : Nat} {f : Nat → List Pd} {e : Nat → Pd} [COne P T] (hx : osd sl x = some (.ptr (d + r) (c * 1))) (hf : Fam bx d f) (hr : r < 8) (he : f r = outL e m) (hc : c < m) (hn : nolk d = true := by rfl) :
  RT P En nn ⟨dst, .load T x, ty, pos, after, guard⟩ sl bx ⟨.one (e c), ids d, []⟩ := oZp hx hf hr (by rw [he, Nat.mul_one]; exact gZG hc) hn
theorem bZO {T : TypeId} {x y : Operand} {d r c m : Nat} {f : Nat → List Pd} {e : Nat → Pd} {q : Pd} [COne P T] [C1 q] (hx : osd sl x = some (.ptr (d + r) (c * 1))) (hy : osd sl y = some (.one q)) (hf : Fam bx d f) (hr : r < 8) (he : f r = outL e m) (hc : c < m) (hn : nolk d = true := by rfl) :
  RT P En nn ⟨dst, .store T x y, ty, pos, after, guard⟩ sl bx ⟨.one (ex undef), ids d, rws d (updF f r (outL (fun j => if j = c then q else e j) m))⟩ :=
 rf_set1 hx hy hf hr (by rw [he, bZc, Nat.mul_one]; exact hc) (by rw [he, Nat.mul_one]; exact dZz hc) hn
theorem bZb {T E : TypeId} {x ix : Operand} {k m n i : Nat} {F : Nat → Nat → List Pd} {kk : IntKind} [hT : CElem P T E 1] (hx : osd sl x = some (.one (cmt k m F n))) (hi : osd sl ix = some (.one (ex (.int kk (i : Int))))) (hy : i < n) :
  RT P En nn ⟨dst, .indexAddr T x ix, ty, pos, after, guard⟩ sl bx ⟨.one (cpR [slc k (rowL (F i) m) m]), [], []⟩ :=
 aZm (k := 1) hx hi hy (bZT (e := fun i => [slc k (rowL (F i) m) m]) (fun _ _ => rfl) hy)
theorem bZm {T E : TypeId} {x ix : Operand} {k m c : Nat} {e : Nat → List Pd} {kk : IntKind} [hT : CElem P T E k] (hx : osd sl x = some (.one (slc k (rowL e m) m))) (hi : osd sl ix = some (.one (ex (.int kk (c : Int))))) (hy : c < m) (hl : ∀ c, c < m → (e c).length = k) (hk : Nat.blt 0 k = true := by rfl) :
  RT P En nn ⟨dst, .indexAddr T x ix, ty, pos, after, guard⟩ sl bx ⟨.one (cpR (e c)), [], []⟩ := aZm hx hi hy (bZT hl hy) hk
instance (k m n : Nat) (F : Nat → Nat → List Pd) : CLen (cmt k m F n) n := by unfold cmt; exact inferInstance
instance (k m n : Nat) (F : Nat → Nat → List Pd) : C1 (cmt k m F n) := ⟨fun _ _ ⟨_, _, h, _⟩ => by rw [h]; rfl⟩
end
theorem retX2 {P : Program} {fn : Func} {σ : St} {bx' : Bx} {t u b n : Nat} (hf : fn.results = #[.tmp t, .tmp u]) (h1 : look σ.sl t = some (.own b 0 n n)) (h2 : look σ.sl u = some (.one (ex (.bool true)))) (hs : subBx σ.bx bx') (hk : LKeep σ.bx bx') (hl : look bx' b ≠ none := by exact js0 rfl) : RetG P fn σ (.gen (tupX b n)) bx' := by
 refine ⟨⟨hs, hk⟩, fun En nn w0 h0 c h β a w hi hsl => ?_⟩
 obtain ⟨v, hv, ⟨cap, e, h3, h4⟩, _⟩ := hsl.slot t _ h1
 obtain ⟨u', hu, e2, _⟩ := hsl.slot u _ h2
 have e2 : u' = .bool true := e2
 exact ⟨.tuple #[v, u'], by rw [bZD, hf]; simp [gZ5, hv, hu], ⟨cap, by rw [e, e2], h3, h4⟩, fun i hi => by rw [show i = b from by simpa [tupX] using hi]; exact hl⟩
def mvSl (ρ : Nat → Nat) (s : Sl) (t : Bx) : Sl → Prop
 | [] => True
 | (k, sd) :: l => (∃ sd', look s k = some sd' ∧ SMv ρ t sd' sd) ∧ mvSl ρ s t l
def mvBx (ρ : Nat → Nat) (s t : Bx) : Bx → Prop
 | [] => True
 | (i, ps) :: l => BMv ρ s t i ps ∧ mvBx ρ s t l
theorem jZL {ρ : Nat → Nat} {s : Sl} {t : Bx} : ∀ {l : Sl}, mvSl ρ s t l → ∀ k sd, look l k = some sd → ∃ sd', look s k = some sd' ∧ SMv ρ t sd' sd
 | [], _, _, _, h => by cases h
 | (k, x) :: l, ⟨h1, h2⟩, i, sd, h => by
  rw [aZc] at h
  split at h
  ·rename_i e; subst e; cases h; exact h1
  ·exact jZL h2 i sd h
theorem jZM {ρ : Nat → Nat} {s t : Bx} : ∀ {l : Bx}, mvBx ρ s t l → ∀ i ps, look l i = some ps → BMv ρ s t i ps
 | [], _, _, _, h => by cases h
 | (k, x) :: l, ⟨h1, h2⟩, i, ps, h => by
  rw [aZc] at h
  split at h
  ·rename_i e; subst e; cases h; exact h1
  ·exact jZM h2 i ps h
theorem Sub.mv {σ τ : St} (a s : Nat) (ha : a < 1000) (hs : s < 750) (ha2 : a < 750) (h1 : mvSl (mvr a s) σ.sl τ.bx τ.sl) (h2 : mvBx (mvr a s) σ.bx τ.bx τ.bx) (hn' : (look τ.bx s).getD [] = [] := by rfl) (hn2' : (look τ.bx (a + 250)).getD [] = [] := by rfl) : Sub σ τ := by
 have hn : ∀ ps, look τ.bx s = some ps → ps = [] := fun ps h => by rw [h] at hn'; exact hn'
 have hn2 : ∀ ps, look τ.bx (a + 250) = some ps → ps = [] := fun ps h => by rw [h] at hn2'; exact hn2'
 refine Sub.move (mvr a s) (fun i hi => aZ7 oM oM) (fun i j ps qs hp hps hq hqs e => ?_) (fun t sd h => jZL h1 t sd h) (fun i ps h => jZM h2 i ps h)
 have k1 : i ≠ a + 250 := by rintro rfl; exact hps (hn2 _ hp)
 have k2 : j ≠ a + 250 := by rintro rfl; exact hqs (hn2 _ hq)
 by_cases e1 : i = a <;> by_cases e2 : j = a
 ·rw [e1, e2]
 ·rw [e1, aZF, aZ7 e2 k2] at e
  subst e
  exact absurd (hn _ hq) hqs
 ·rw [e2, aZF, aZ7 e1 k1] at e
  subst e
  exact absurd (hn _ hp) hps
 ·rw [aZ7 e1 k1, aZ7 e2 k2] at e
  exact e
theorem BMv.out {s t : Bx} {a src b n : Nat} {f g : Nat → Pd} (hb : lk b = true) (hab : b ≠ a) (hab2 : b ≠ a + 250) (hgr : ¬ grows b) (hl : look s b = some (outL f n)) (h : ∀ i, i < n → PMv (mvr a src) s t (f i) (g i)) : BMv (mvr a src) s t b (outL g n) := by
 refine .inr ⟨outL f n, ?_, ?_, fun hg => absurd hg hgr, .inr (.inl ⟨hb, ?_, PsMv.out h⟩)⟩ <;> rw [aZ7 hab hab2]
 ·exact hl
 ·exact hb
theorem BMv.cells {s t : Bx} {a src b : Nat} {ps' ps : List Pd} (hb : lk b = true) (hab : b ≠ a) (hab2 : b ≠ a + 250) (hgr : ¬ grows b) (hl : look s b = some ps') (h : PsMv (mvr a src) s t ps' ps) : BMv (mvr a src) s t b ps := by
 refine .inr ⟨ps', ?_, ?_, fun hg => absurd hg hgr, .inr (.inl ⟨hb, ?_, h⟩)⟩ <;> rw [aZ7 hab hab2]
 ·exact hl
 ·exact hb
theorem BMv.keep {s t : Bx} {a src b : Nat} {ps' ps : List Pd} (hb : lk b = false) (hab : b ≠ a) (hab2 : b ≠ a + 250) (hgr : ¬ grows b) (hl : look s b = some ps') (h : PsLe ps' ps) : BMv (mvr a src) s t b ps := by
 refine .inr ⟨ps', ?_, ?_, fun hg => absurd hg hgr, .inl ⟨hb, ?_, h⟩⟩ <;> rw [aZ7 hab hab2]
 ·exact hl
 ·exact hb
theorem BMv.grow {s t : Bx} {a src b : Nat} {ps' ps : List Pd} (hb : lk b = false) (hab : b ≠ a) (hab2 : b ≠ a + 250) (hab3 : b + 250 ≠ a) (hl : look s b = some ps') (h : PsLe ps' ps) : BMv (mvr a src) s t b ps := by
 refine .inr ⟨ps', ?_, ?_, fun hg => ?_, .inl ⟨hb, ?_, h⟩⟩ <;> rw [aZ7 hab hab2]
 ·exact hl
 ·exact ⟨hg, aZ7 hab3 oM⟩
 ·exact hb
theorem BMv.at {s t : Bx} {a src : Nat} {ps' ps : List Pd} (hb : lk a = false) (hb' : lk src = false) (hgr : grows a → grows src) (hlo : a < 1000) (hlo2 : src < 1000) (hl : look s src = some ps') (h : PsLe ps' ps) : BMv (mvr a src) s t a ps := by
 refine .inr ⟨ps', by rw [aZF]; exact hl, by rw [aZF]; omega, fun hg => ?_, .inl ⟨hb, by rw [aZF]; exact hb', h⟩⟩
 rw [aZF, cZa]; exact ⟨hgr hg, rfl⟩
theorem BMv.to {s t : Bx} {a src n : Nat} {f g : Nat → Pd} (hb : lk a = true) (hb' : lk src = false) (hgr : grows a → grows src) (hlo : a < 1000) (hlo2 : src < 1000) (hl : look s src = some (outL f n)) (h : ∀ i, i < n → PLe (f i) (g i) ∧ Flat (g i)) : BMv (mvr a src) s t a (outL g n) := by
 refine .inr ⟨outL f n, by rw [aZF]; exact hl, by rw [aZF]; omega, fun hg => ?_, .inr (.inr ⟨hb, by rw [aZF]; exact hb', PsFl.out h⟩)⟩
 rw [aZF, cZa]; exact ⟨hgr hg, rfl⟩
theorem BMv.toC {s t : Bx} {a src : Nat} {ps' ps : List Pd} (hb : lk a = true) (hb' : lk src = false) (hgr : grows a → grows src) (hlo : a < 1000) (hlo2 : src < 1000) (hl : look s src = some ps') (h : PsFl ps' ps) : BMv (mvr a src) s t a ps := by
 refine .inr ⟨ps', by rw [aZF]; exact hl, by rw [aZF]; omega, fun hg => ?_, .inr (.inr ⟨hb, by rw [aZF]; exact hb', h⟩)⟩
 rw [aZF, cZa]; exact ⟨hgr hg, rfl⟩
theorem mvBx.fam {s t : Bx} {ρ : Nat → Nat} {d : Nat} {g : Nat → List Pd} {l : Bx} (h : ∀ j, j < 8 → BMv ρ s t (d + j) (g j)) (r : mvBx ρ s t l) : mvBx ρ s t (rws d g ++ l) :=
 ⟨h 0 oM, h 1 oM, h 2 oM, h 3 oM, h 4 oM, h 5 oM, h 6 oM, h 7 oM, r⟩
theorem mvBx.famK {s t : Bx} {a src d : Nat} {f g : Nat → List Pd} {l : Bx} (hf : Fam s d f) (hd : d + 8 ≤ 400) (ha : a < d ∨ d + 8 ≤ a) (ha3 : 200 ≤ a) (hle : ∀ j, j < 8 → PsLe (f j) (g j)) (r : mvBx (mvr a src) s t l) : mvBx (mvr a src) s t (rws d g ++ l) :=
 mvBx.fam (fun j hj => by
  by_cases e : d + j = a + 250
  ·omega
  ·exact BMv.keep (bZL oM) oM e uG (hf j hj) (hle j hj)) r
theorem mvBx.famA {s t : Bx} {i src d : Nat} {f g : Nat → List Pd} {ps' : List Pd} {l : Bx} (hf : Fam s d f) (hd : d + 8 ≤ 400) (hd1 : 150 ≤ d) (hi : i < 8) (hsrc : src < 400) (hle : ∀ j, j < 8 → j ≠ i → PsLe (f j) (g j)) (hnew : look s src = some ps') (hnew2 : PsLe ps' (g i)) (r : mvBx (mvr (d + i) src) s t l) : mvBx (mvr (d + i) src) s t (rws d g ++ l) :=
 mvBx.fam (fun j hj => by
  by_cases e : j = i
  ·subst e
   exact BMv.at (bZL oM) (bZL hsrc) uG oM oM hnew hnew2
  ·exact BMv.keep (bZL oM) oM oM uG (hf j hj) (hle j hj e)) r
theorem lkAll.fam {full : Bx} {d : Nat} {g : Nat → List Pd} {l : Bx} (h : nolk d = true) (r : lkAll full l) : lkAll full (rws d g ++ l) := by
 have k : ∀ j, j < 8 → lk (d + j) = false := fun j hj => dZI h hj
 exact ⟨.inl (k 0 oM), .inl (k 1 oM), .inl (k 2 oM), .inl (k 3 oM), .inl (k 4 oM), .inl (k 5 oM), .inl (k 6 oM), .inl (k 7 oM), r⟩
theorem subBx.fam {s : Bx} {d : Nat} {f g : Nat → List Pd} {l : Bx} (hf : Fam s d f) (h : ∀ j, j < 8 → PsLe (f j) (g j)) (r : subBx s l) : subBx s (rws d g ++ l) :=
 ⟨.inl ⟨_, hf 0 oM, h 0 oM⟩, .inl ⟨_, hf 1 oM, h 1 oM⟩, .inl ⟨_, hf 2 oM, h 2 oM⟩, .inl ⟨_, hf 3 oM, h 3 oM⟩, .inl ⟨_, hf 4 oM, h 4 oM⟩, .inl ⟨_, hf 5 oM, h 5 oM⟩, .inl ⟨_, hf 6 oM, h 6 oM⟩, .inl ⟨_, hf 7 oM, h 7 oM⟩, r⟩
theorem PsLe.of {a b : List Pd} (h : a = b) : PsLe a b := h ▸ PsLe.refl a
theorem PsLe.append : ∀ {a b c d : List Pd}, a.length = b.length → PsLe a b → PsLe c d → PsLe (a ++ c) (b ++ d)
 | [], [], _, _, _, _, h => h
 | _ :: _, _ :: _, _, _, hl, ⟨x, y⟩, h => ⟨x, PsLe.append (by simpa using hl) y h⟩
 | [], _ :: _, _, _, hl, _, _ => by cases hl
 | _ :: _, [], _, _, hl, _, _ => by cases hl
theorem PsLe.rowL {e e' : Nat → List Pd} {k : Nat} : ∀ {m : Nat}, (∀ c, c < m → (e c).length = k) → (∀ c, c < m → (e' c).length = k) → (∀ c, c < m → PsLe (e c) (e' c)) → PsLe (rowL e m) (rowL e' m)
 | 0, _, _, _ => trivial
 | m + 1, h1, h2, h => PsLe.append (by rw [bZj (k := k) fun c hc => h1 c oM, bZj (k := k) fun c hc => h2 c oM]) (PsLe.rowL (fun c hc => h1 c oM) (fun c hc => h2 c oM) fun c hc => h c oM) (h m oM)
def imt (A : Nat → Nat → Int) (n m : Nat) : Pd := cmt 1 m (fun i c => [ex (.int .i64 (A i c))]) n
def zmt (A : Nat → Nat → Int) (n m : Nat) : Pd := cmt 2 m (fun i c => aZL (A i c)) n
instance (A : Nat → Nat → Int) (n m : Nat) : CLen (imt A n m) n := by unfold imt; exact inferInstance
instance (A : Nat → Nat → Int) (n m : Nat) : CLen (zmt A n m) n := by unfold zmt; exact inferInstance
instance (A : Nat → Nat → Int) (n m : Nat) : C1 (imt A n m) := by unfold imt; exact inferInstance
instance (A : Nat → Nat → Int) (n m : Nat) : C1 (zmt A n m) := by unfold zmt; exact inferInstance
def iRow (f : Nat → Int) (m : Nat) : List Pd := outL (fun c => ex (.int .i64 (f c))) m
def zRow (f : Nat → Int) (m : Nat) : List Pd := rowL (fun c => aZL (f c)) m
theorem fZM : PsLe [ex (.bool false), ex (.slice none 0 0)] (aZL 0) := ⟨PLe.refl _, eZx, trivial⟩
theorem lZj (m : Nat) : PsLe (List.replicate m ([.bool false, .slice none 0 0].map ex)).flatten (zRow (fun _ => 0) m) := by
 rw [bZ9]
 exact PsLe.rowL (k := 2) (fun _ _ => rfl) (fun _ _ => rfl) fun _ _ => fZM
theorem mZM (m : Nat) : PsLe (List.replicate m ([.int .i64 0].map ex)).flatten (iRow (fun _ => 0) m) := by
 rw [bZ9]
 exact PsLe.refl _
def bZq (A : Nat → Nat → Int) (n m : Nat) : Nat → List Pd := fun r => bif Nat.blt r n then zRow (A r) m else []
def aZy (A : Nat → Nat → Int) (n m : Nat) : Nat → List Pd := fun r => bif Nat.blt r n then iRow (A r) m else []
theorem blt_t {r n : Nat} (h : r < n) : Nat.blt r n = true := by rw [Nat.blt, Nat.ble_eq]; exact h
theorem blt_f {r n : Nat} (h : ¬ r < n) : Nat.blt r n = false := by cases e : Nat.blt r n; rfl; exact absurd (Nat.le_of_ble_eq_true e) h
theorem aZ4 {A : Nat → Nat → Int} {n m r : Nat} (h : r < n) : bZq A n m r = zRow (A r) m := by unfold bZq; rw [blt_t h]; rfl
theorem bZS {A : Nat → Nat → Int} {n m r : Nat} (h : ¬ r < n) : bZq A n m r = [] := by unfold bZq; rw [blt_f h]; rfl
theorem aZl {A : Nat → Nat → Int} {n m r : Nat} (h : r < n) : aZy A n m r = iRow (A r) m := by unfold aZy; rw [blt_t h]; rfl
theorem aZo {A : Nat → Nat → Int} {n m r : Nat} (h : ¬ r < n) : aZy A n m r = [] := by unfold aZy; rw [blt_f h]; rfl
def upm (A : Nat → Nat → Int) (r c : Nat) (v : Int) : Nat → Nat → Int := fun i j => if i = r ∧ j = c then v else A i j
theorem cZG {A : Nat → Nat → Int} {n m r c : Nat} {v : Int} (h : r < n) : updF (bZq A n m) r (rowL (fun j => if j = c then aZL v else aZL (A r j)) m) = bZq (upm A r c v) n m := by
 funext i
 by_cases e : i = r
 ·subst e
  rw [dZA, aZ4 h]
  refine aZG fun j _ => ?_
  unfold upm
  by_cases e2 : j = c
  ·rw [if_pos e2, if_pos ⟨rfl, e2⟩]
  ·rw [if_neg e2, if_neg fun h => e2 h.2]
 ·rw [eZl e]
  by_cases h2 : i < n
  ·rw [aZ4 h2, aZ4 h2]
   refine aZG fun j _ => ?_
   unfold upm
   rw [if_neg fun h => e h.1]
  ·rw [bZS h2, bZS h2]
theorem dZk {A : Nat → Nat → Int} {n m r c : Nat} {v : Int} (h : r < n) : updF (aZy A n m) r (outL (fun j => if j = c then ex (.int .i64 v) else ex (.int .i64 (A r j))) m) = aZy (upm A r c v) n m := by
 funext i
 by_cases e : i = r
 ·subst e
  rw [dZA, aZl h]
  refine aZu fun j _ => ?_
  unfold upm
  by_cases e2 : j = c
  ·rw [if_pos e2, if_pos ⟨rfl, e2⟩]
  ·rw [if_neg e2, if_neg fun h => e2 h.2]
 ·rw [eZl e]
  by_cases h2 : i < n
  ·rw [aZl h2, aZl h2]
   refine aZu fun j _ => ?_
   unfold upm
   rw [if_neg fun h => e h.1]
  ·rw [aZo h2, aZo h2]
theorem aZB {A B : Nat → Nat → Int} {n m : Nat} (h : ∀ i j, i < n → j < m → A i j = B i j) : bZq A n m = bZq B n m := by
 funext i
 by_cases h2 : i < n
 ·rw [aZ4 h2, aZ4 h2]; exact aZG fun j hj => by rw [h i j h2 hj]
 ·rw [bZS h2, bZS h2]
theorem bZy {A B : Nat → Nat → Int} {n m : Nat} (h : ∀ i j, i < n → j < m → A i j = B i j) : aZy A n m = aZy B n m := by
 funext i
 by_cases h2 : i < n
 ·rw [aZl h2, aZl h2]; exact aZu fun j hj => by rw [h i j h2 hj]
 ·rw [aZo h2, aZo h2]
def zout (d i m : Nat) : Nat → Pd := fun j => if j < i then ownP (d + j) 0 m m else ex (.slice none 0 0)
theorem dZv (d n m : Nat) : outL (zout d n m) n = outL (fun i => ownP (d + i) 0 m m) n := aZu fun _ hi => if_pos hi
theorem cZB {d i m n src : Nat} {s t : Bx} (hd : d + 8 ≤ 400) (hd1 : 150 ≤ d) (hsrc : src < 150) (hn : n ≤ 8) (hl : ∀ j, j < 8 → look t (d + j) ≠ none) : ∀ j, j < n → PMv (mvr (d + i) src) s t (if j = i then ownP src 0 m m else zout d i m j) (zout d (i + 1) m j) := fun j hj => by
 unfold zout
 by_cases e : j = i
 ·subst e
  rw [if_pos rfl, if_pos oM]
  exact PMv.own (aZF _ _) (hl j oM) uG uG
 ·rw [if_neg e]
  by_cases h : j < i
  ·rw [if_pos h, if_pos oM]
   exact PMv.own (aZ7 oM oM) (hl j oM) uG uG
  ·rw [if_neg h, if_neg oM]
   exact PMv.flat (PLe.refl _)
end
section
open Go.RowKit Limb
instance cone_int' : COne Tryz.prog 3 := ⟨⟨_, Tryz.underlying3, rfl, by kernel_rfl⟩⟩
instance cone_i64' : COne Tryz.prog 2 := ⟨⟨_, Tryz.underlying2, rfl, by kernel_rfl⟩⟩
instance cslice_zs : CSlice Tryz.prog 116 32 := ⟨Tryz.underlying116⟩
instance celem_zs : CElem Tryz.prog 116 32 2 := ⟨Tryz.underlying116, by kernel_rfl⟩
instance crowz_z : CRowZ Tryz.prog 32 2 [.bool false, .slice none 0 0] 32 := ⟨by kernel_rfl, rfl, rfl⟩
instance cone_zs : COne Tryz.prog 116 := ⟨⟨_, Tryz.underlying116, rfl, by kernel_rfl⟩⟩
instance crowz_zs : CRowZ Tryz.prog 116 1 [.slice none 0 0] 24 := ⟨by kernel_rfl, rfl, rfl⟩
instance cslice_zss : CSlice Tryz.prog 53 116 := ⟨Tryz.underlying53⟩
instance celem_zss : CElem Tryz.prog 53 116 1 := ⟨Tryz.underlying53, by kernel_rfl⟩
instance cone_zss : COne Tryz.prog 53 := ⟨⟨_, Tryz.underlying53, rfl, by kernel_rfl⟩⟩
instance cslice_is : CSlice Tryz.prog 49 2 := ⟨Tryz.underlying49⟩
instance celem_is : CElem Tryz.prog 49 2 1 := ⟨Tryz.underlying49, by kernel_rfl⟩
instance crowz_i64 : CRowZ Tryz.prog 2 1 [.int .i64 0] 8 := ⟨by kernel_rfl, rfl, rfl⟩
instance cone_is : COne Tryz.prog 49 := ⟨⟨_, Tryz.underlying49, rfl, by kernel_rfl⟩⟩
instance crowz_is : CRowZ Tryz.prog 49 1 [.slice none 0 0] 24 := ⟨by kernel_rfl, rfl, rfl⟩
instance cslice_iss : CSlice Tryz.prog 25 49 := ⟨Tryz.underlying25⟩
instance celem_iss : CElem Tryz.prog 25 49 1 := ⟨Tryz.underlying25, by kernel_rfl⟩
instance cone_iss : COne Tryz.prog 25 := ⟨⟨_, Tryz.underlying25, rfl, by kernel_rfl⟩⟩
instance cbody109 : CBody Tryz.prog 109 := ⟨⟨_, Tryz.func109, rfl, by rfl⟩⟩
instance cbody54 : CBody Tryz.prog 54 := ⟨⟨_, Tryz.func54, rfl, by rfl⟩⟩
instance cbody18 : CBody Tryz.prog 18 := ⟨⟨_, Tryz.func18, rfl, by rfl⟩⟩
instance cbody51 : CBody Tryz.prog 51 := ⟨⟨_, Tryz.func51, rfl, by rfl⟩⟩
instance cbody49 : CBody Tryz.prog 49 := ⟨⟨_, Tryz.func49, rfl, by rfl⟩⟩
instance cbody48 : CBody Tryz.prog 48 := ⟨⟨_, Tryz.func48, rfl, by rfl⟩⟩
instance cbody118 : CBody Tryz.prog 118 := ⟨⟨_, Tryz.func118, rfl, by rfl⟩⟩
instance cbody160 : CBody Tryz.prog 160 := ⟨⟨_, Tryz.func160, rfl, by rfl⟩⟩
instance cbody119 : CBody Tryz.prog 119 := ⟨⟨_, Tryz.func119, rfl, by rfl⟩⟩
instance cbody53 : CBody Tryz.prog 53 := ⟨⟨_, Tryz.func53, rfl, by rfl⟩⟩
instance cbody154 : CBody Tryz.prog 154 := ⟨⟨_, Tryz.func154, rfl, by rfl⟩⟩
instance cbody21 : CBody Tryz.prog 21 := ⟨⟨_, Tryz.func21, rfl, by rfl⟩⟩
instance cbody117 : CBody Tryz.prog 117 := ⟨⟨_, Tryz.func117, rfl, by rfl⟩⟩
instance cbody104 : CBody Tryz.prog 104 := ⟨⟨_, Tryz.func104, rfl, by rfl⟩⟩
section
variable (En : Ev)
theorem oZ4 (n m : Nat) (hn : n ≤ 8) (hm : m ≤ 8) : FnG Tryz.prog En 109 ([ex (.int .i64 (n : Int)), ex (.int .i64 (m : Int))].map .one) [] (.own 400 0 n n) (mbx 400 200 (fun i => i) n m (bZq (fun _ _ => 0) n m)) := by
 refine aZr Tryz.func109 rfl Tryz.ntmps109 rfl ?_
 intro w0 h0 c
 refine js<|jr<|ja jj<|jn<|js<|jr<|jm jj<|jT (bZ7 jj jj jj jj oM jj jj)<|ja jj<|jn<|js<|js<|jr<|jm jj<|jS (aZE jj CSlice.ok)<|jm jj<|jn<|jb ?_
 refine WpD.loop (α := {i : Nat // i ≤ n}) (fun i => ⟨[(1, .one (ex (.int .i64 (m : Int)))), (5, .own 400 0 n n), (10, .one (ex (.int .i64 (n : Int)))), (11, .one (ex (.int .i64 (i.1 : Int))))], (400, outL (zout 200 i.1 m) n) :: rws 200 (bZq (fun _ _ => 0) i.1 m)⟩) (fun i => n - i.1) ⟨0, Nat.zero_le _⟩ ?_ ?_
 ·dsimp only
  refine Sub.mv 400 8 oM oM oM ⟨pK, ⟨_, rfl, aZF _ _, rfl, rfl, rfl, js0 rfl⟩, pK, pK, trivial⟩ ⟨BMv.to rfl rfl uG oM oM (congrArg some (bZ9 [ex (.slice none 0 0)] n)) (fun i _ => ⟨PLe.refl _, by unfold zout; rw [if_neg oM]; exact inferInstance⟩), mvBx.fam (fun j _ => .inl (bZS oM)) trivial⟩
 rintro ⟨i, hi⟩
 dsimp only
 by_cases hin : i < n
 ·refine js<|jr<|jS (bLt jj jj)<|jn<|js<|jt jj<|jp<|js<|jb<|js<|jr<|jm jj<|ja jj<|jn<|jr<|jm jj<|jm jj<|jm jj<|jT (bZ7 jj jj jj jj oM jj jj)<|jS (aZd jj jj aO)<|jO (bZw jj jj jj aO aG)<|jn<|jr<|jS (bAd jj jj wO)<|jm jj<|jn ?_
  refine ⟨⟨i + 1, oM⟩, ?_, oD⟩
  dsimp only
  refine Sub.mv (200 + i) 17 oM oM oM ⟨pK, ⟨_, rfl, aZ7 oM oM, rfl, rfl, rfl, js0 rfl⟩, pK, pK, trivial⟩ ⟨BMv.out rfl oM oM uG rfl (cZB oM oM oM hn (Fam.live fFm)), mvBx.famA fFm oM oM oM oM (fun j _ hj => PsLe.of ?_) rfl ?_ trivial⟩ rfl ?_
  ·by_cases h : j < i
   ·rw [aZ4 h, aZ4 oM]
   ·rw [bZS h, bZS oM]
  ·rw [aZ4 oM]; exact lZj m
  ·dsimp only
   rw [aZc, if_neg oM, cZu, if_neg oM]; rfl
 ·have e : i = n := oM
  subst e
  refine js<|jr<|jS (bLf jj jj)<|jn<|js<|jf jj<|je<|js<|jr<|jm jj<|ja jj<|jn<|ji ?_
  refine dZm rfl rfl (SLe.rfl' _) (js0 rfl) ⟨.inl ⟨_, rfl, PsLe.of (dZv ..)⟩, subBx.fam fFm (fun _ _ => PsLe.refl _) trivial⟩ (LKeep.all ⟨.inr (aZp (Fam.live fFm) oM oM), lkAll.fam rfl trivial⟩)
def I64 (x : Int) : Prop := -9223372036854775808 ≤ x ∧ x ≤ 9223372036854775807
theorem mZy (A : Nat → Nat → Int) (n m : Nat) (hn : 1 ≤ n) (hn8 : n ≤ 8) (hm : 1 ≤ m) (hm8 : m ≤ 8) (hA : ∀ i j, i < n → j < m → I64 (A i j)) : Fn Tryz.prog En 54 [imt A n m] (tupP [zmt A n m, ex (.bool true)]) := by
 have b1 : decide ((n : Int) < 1) = false := decide_eq_false oM
 have b2 : decide ((n : Int) > 16) = false := decide_eq_false oM
 have b3 : decide ((m : Int) < 1) = false := decide_eq_false oM
 have b4 : decide ((m : Int) > 16) = false := decide_eq_false oM
 have b5 : ((m : Int) != (m : Int)) = false := by simp
 have CZ := oZ4 En n m hn8 hm8
 refine aZb Tryz.func54 rfl Tryz.ntmps54 rfl ?_
 intro w0 h0
 refine js<|jr<|ja jj<|ja jj<|jn<|js<|js<|jr<|jm jj<|jE jj<|jS (bVl jj jj b1)<|jm jj (jgm jj (jg (bZo jj CSlice.ok) (jg (bVg jj jj b2) (jQ jj jj (jn (jf jj (jp (js (js (jr (jm jj (jE jj (jm jj (jn (jb ?_)))))))))))))))
 refine WpD.loop (α := {i : Nat // i ≤ n}) (fun i => ⟨[(0, .one (imt A n m)), (17, .one (imt A n m)), (18, .one (ex (.int .i64 (n : Int)))), (19, .one (ex (.int .i64 (i.1 : Int))))], []⟩) (fun i => n - i.1) ⟨0, Nat.zero_le _⟩ ?_ ?_
 ·dsimp only
  exact Sub.mk sJ sJ
 rintro ⟨i, hi⟩
 dsimp only
 by_cases hin : i < n
 ·refine js<|jr<|jS (bLt jj jj)<|jn<|js<|jt jj<|jp<|js<|jb<|js<|jr<|jS (bZb jj jj aO)<|jS (aZh jj jj)<|ja jj<|jn<|js<|jr<|jm jj<|jE jj<|jS (bVl jj jj b3)<|jm jj (jgm jj (jg (bZo jj CSlice.ok) (jg (bVg jj jj b4) (jQ jj jj (jm jj (jgm jj (jg (bZo jj CSlice.ok) (jgm jj (jg (bZb (i := 0) jj jj aO) (jg (aZh jj jj) (jg (bZo jj CSlice.ok) (jg (bNf jj jj) (jQ jj jj (jn (jf jj (jp (jr (jS (bAd jj jj wO) (jm jj (jn ?_))))))))))))))))))))
  refine ⟨⟨i + 1, oM⟩, ?_, oD⟩
  dsimp only
  exact Sub.mk sJ sJ
 ·have e : i = n := oM
  subst e
  refine js<|jr<|jS (bLf jj jj)<|jn<|js<|jf jj<|je<|js<|jr<|jm jj<|jE jj<|jm jj<|jS (bZb (i := 0) jj jj aO)<|jS (aZh jj jj)<|jE jj<|RG.SW (LT.plain jj (cZ1 400 200 CZ tB (by intro i hi; omega) jj)) jj<|ja jj<|jn<|js<|js<|jr<|jm jj<|jE jj<|jm jj<|jn<|jb ?_
  refine WpD.loop (α := {k : Nat // k ≤ i}) (fun k => ⟨[(0, .one (imt A i m)), (6, .own 400 0 i i), (49, .one (ex (.int .i64 (i : Int)))), (50, .one (ex (.int .i64 (k.1 : Int))))], (400, outL (fun j => ownP (200 + j) 0 m m) i) :: rws 200 (bZq (fun r c => if r < k.1 then A r c else 0) i m)⟩) (fun k => i - k.1) ⟨0, Nat.zero_le _⟩ ?_ ?_
  ·dsimp only
   exact Sub.mk sJ ⟨.inl pQ, subBx.fam fFm (fun r _ => PsLe.of (by rw [aZB fun i j _ _ => (if_neg (Nat.not_lt_zero i)).symm])) trivial⟩ (LKeep.all ⟨.inr (aZp (π := fun i => i) (Fam.live fFm) oM oM), lkAll.fam rfl trivial⟩)
  rintro ⟨k, hk⟩
  dsimp only
  by_cases hkn : k < i
  ·refine js<|jr<|jS (bLt jj jj)<|jn<|js<|jt jj<|jp<|js<|jb<|js<|jr<|jm jj<|ja jj<|jn<|js<|jr<|jm jj<|jm jj<|jS (bZb jj jj aO)<|jS (aZh jj jj)<|jE jj<|jm jj<|jn<|jb ?_
   refine WpD.loop (α := {j : Nat // j ≤ m}) (fun j => ⟨[(0, .one (imt A i m)), (6, .own 400 0 i i), (7, .one (ex (.int .i64 (k : Int)))), (49, .one (ex (.int .i64 (i : Int)))), (50, .one (ex (.int .i64 (k : Int)))), (57, .one (ex (.int .i64 (m : Int)))), (58, .one (ex (.int .i64 (j.1 : Int))))], (400, outL (fun j => ownP (200 + j) 0 m m) i) :: rws 200 (bZq (fun r c => if r < k ∨ r = k ∧ c < j.1 then A r c else 0) i m)⟩) (fun j => m - j.1) ⟨0, Nat.zero_le _⟩ ?_ ?_
   ·dsimp only
    exact Sub.mk sJ ⟨.inl pQ, subBx.fam fFm (fun r _ => PsLe.of (by rw [aZB (B := fun r c => if r < k ∨ r = k ∧ c < 0 then A r c else 0) fun i j _ _ => by by_cases h : i < k <;> simp [h]])) trivial⟩ (LKeep.all ⟨.inr (aZp (π := fun i => i) (Fam.live fFm) oM oM), lkAll.fam rfl trivial⟩)
   rintro ⟨j, hj⟩
   dsimp only
   by_cases hjm : j < m
   ·have C1 := cZ5 En (A k j) (hA k j hkn hjm).1 (hA k j hkn hjm).2
    have he : bZq (fun r c => if r < k ∨ r = k ∧ c < j then A r c else 0) i m k = rowL (fun c => aZL (if k < k ∨ k = k ∧ c < j then A k c else 0)) m := aZ4 hkn
    refine js<|jr<|jS (bLt jj jj)<|jn<|js<|jt jj<|jp<|js<|jb<|js<|jr<|jm jj<|ja jj<|jn<|jr<|jm jj<|jm jj<|jS (aZd jj jj aO) ?_
    refine jS (aZt jj jj aO jj aG)<|jm jj<|jm jj<|jm jj<|jS (bZb jj jj aO)<|jS (aZh jj jj)<|jm jj<|jS (bZm jj jj aO (fun _ _ => jj))<|jS (aZh jj jj)<|jS (aZa C1 tA)<|jS (aZd jj jj aO)<|RG.NW (LT.plain jj (eZp jj jj fFm aO aR aO (fun _ _ => jj))) jj ?_
    refine jn<|jr<|jS (bAd jj jj wO)<|jm jj<|jn ?_
    refine ⟨⟨j + 1, oM⟩, ?_, oD⟩
    dsimp only
    refine Sub.mk ?_ ⟨.inl pQ, subBx.fam fFm (fun r _ => PsLe.of ?_) trivial⟩ (LKeep.all ⟨.inr (aZp (π := fun i => i) (Fam.live fFm) oM oM), lkAll.fam rfl trivial⟩)
    ·repeat (first | exact trivial | refine jv rfl ?_ | refine jw rfl (js0 rfl) ?_)
    ·refine congrFun ((cZG hkn).trans (aZB fun a b _ _ => ?_)) r
     unfold upm
     by_cases h1 : a = k <;> by_cases h2 : b = j <;> simp [h1, h2]
     by_cases h3 : b < j <;> by_cases h4 : b < j + 1 <;> simp [h3, h4] <;> omega
   ·refine js<|jr<|jS (bLf jj jj)<|jn<|js<|jf jj<|je<|jr<|jS (bAd jj jj wO)<|jm jj<|jn ?_
    refine ⟨⟨k + 1, oM⟩, ?_, oD⟩
    dsimp only
    refine Sub.mk ?_ ⟨.inl pQ, subBx.fam fFm (fun r _ => PsLe.of (congrFun (aZB fun a b _ _ => ?_) r)) trivial⟩ (LKeep.all ⟨.inr (aZp (π := fun i => i) (Fam.live fFm) oM oM), lkAll.fam rfl trivial⟩)
    ·repeat (first | exact trivial | refine jv rfl ?_ | refine jw rfl (js0 rfl) ?_)
    ·by_cases h : a < k ∨ a = k ∧ b < j
     ·rw [if_pos h, if_pos oM]
     ·rw [if_neg h, if_neg oM]
  ·have e : k = i := oM
   subst e
   refine js<|jr<|jS (bLf jj jj)<|jn<|js<|jf jj<|je<|js ?_
   refine WpD.sub (τ := ⟨[(6, .one (zmt A k m))], []⟩) (Sub.pubX 400 200 (fun i c => aZL (A i c)) (π := fun i => i) rfl fFm rfl oM (fun r hr => ?_) (fun _ _ _ _ => rfl) ⟨.inr ⟨rfl, rfl⟩, trivial⟩ trivial rfl) ?_
   ·rw [aZ4 hr]
    exact aZG fun c _ => by dsimp only; rw [if_pos hr]
   refine kO ?_
   refine jr<|jm jj<|ja jj<|ja jj<|jn<|ji ?_
   exact ret2 rfl (.tmp rfl) (.tmp rfl) (PLe.refl _)
theorem mof (A : Nat → Nat → Int) (n m : Nat) (hn : 1 ≤ n) (hn8 : n ≤ 8) (hm : 1 ≤ m) (hm8 : m ≤ 8) (hA : ∀ i j, i < n → j < m → I64 (A i j)) : Fn Tryz.prog En 18 [imt A n m] (zmt A n m) := by
 have C := mZy En A n m hn hn8 hm hm8 hA
 refine aZb Tryz.func18 rfl Tryz.ntmps18 rfl ?_
 intro w0 h0
 refine js<|jr<|ja jj<|jn<|js<|jr<|jm jj<|jS (aZa C tA)<|jm jj<|jx' jj jj<|jx' jj jj<|ja jj<|ja jj<|jn<|js<|jr<|jm jj<|ja jj<|jn<|ji ?_
 exact rtT rfl jj
theorem jZO (A : Nat → Nat → Int) (n m : Nat) (hn : 1 ≤ n) (hn8 : n ≤ 8) (hm : 1 ≤ m) (hm8 : m ≤ 8) : Fn Tryz.prog En 117 [zmt A n m] (tupP [ex (.int .i64 (n : Int)), ex (.int .i64 (m : Int)), ex (.bool true)]) := by
 have b1 : decide ((n : Int) < 1) = false := decide_eq_false oM
 have b2 : decide ((n : Int) > 16) = false := decide_eq_false oM
 have b3 : decide ((m : Int) < 1) = false := decide_eq_false oM
 have b4 : decide ((m : Int) > 16) = false := decide_eq_false oM
 have b5 : ((m : Int) != (m : Int)) = false := by simp
 refine aZb Tryz.func117 rfl Tryz.ntmps117 rfl ?_
 intro w0 h0
 refine js<|jr<|ja jj<|ja jj<|ja jj<|jn<|js<|js<|jr<|jm jj<|jE jj<|jS (bVl jj jj b1)<|jm jj (jgm jj (jg (bZo jj CSlice.ok) (jg (bVg jj jj b2) (jQ jj jj (jn (jf jj (jp (js (js (jr (jm jj (jE jj (jm jj (jn (jb ?_)))))))))))))))
 refine WpD.loop (α := {i : Nat // i ≤ n}) (fun i => ⟨[(0, .one (zmt A n m)), (15, .one (zmt A n m)), (16, .one (ex (.int .i64 (n : Int)))), (17, .one (ex (.int .i64 (i.1 : Int))))], []⟩) (fun i => n - i.1) ⟨0, Nat.zero_le _⟩ ?_ ?_
 ·dsimp only
  exact Sub.mk sJ sJ
 rintro ⟨i, hi⟩
 dsimp only
 by_cases hin : i < n
 ·refine js<|jr<|jS (bLt jj jj)<|jn<|js<|jt jj<|jp<|js<|jb<|js<|jr<|jS (bZb jj jj aO)<|jS (aZh jj jj)<|ja jj<|jn<|js<|jr<|jm jj<|jE jj<|jS (bVl jj jj b3)<|jm jj (jgm jj (jg (bZo jj CSlice.ok) (jg (bVg jj jj b4) (jQ jj jj (jm jj (jgm jj (jg (bZo jj CSlice.ok) (jgm jj (jg (bZb (i := 0) jj jj aO) (jg (aZh jj jj) (jg (bZo jj CSlice.ok) (jg (bNf jj jj) (jQ jj jj (jn (jf jj (jp (jr (jS (bAd jj jj wO) (jm jj (jn ?_))))))))))))))))))))
  refine ⟨⟨i + 1, oM⟩, ?_, oD⟩
  dsimp only
  exact Sub.mk sJ sJ
 ·refine js<|jr<|jS (bLf jj jj)<|jn<|js<|jf jj<|je<|js<|jr<|jm jj<|jE jj<|jm jj<|jS (bZb (i := 0) jj jj aO)<|jS (aZh jj jj)<|jE jj<|ja jj<|ja jj<|ja jj<|jn<|ji ?_
  exact ret3 rfl (.tmp rfl) (.tmp rfl) (.tmp rfl) (PLe.refl _)
theorem mZr (A : Nat → Nat → Int) (n : Nat) (hn : 1 ≤ n) (hn8 : n ≤ 8) : Fn Tryz.prog En 104 [zmt A n n] (tupP [ex (.int .i64 (n : Int)), ex (.bool true)]) := by
 have C := jZO En A n n hn hn8 hn hn8
 have b5 : ((n : Int) != (n : Int)) = false := by simp
 refine aZb Tryz.func104 rfl Tryz.ntmps104 rfl ?_
 intro w0 h0
 refine js<|jr<|ja jj<|ja jj<|jn<|js<|jr<|jm jj<|jS (aZa C tA)<|jm jj<|jx' jj jj<|jx' jj jj<|jx' jj jj<|ja jj<|ja jj<|ja jj<|jn<|js<|js<|jr<|jm jj<|jS (bNo jj)<|jm jj ?_
 first | refine jgm jj ?_ | refine jk ?_
 first | refine jgm jj ?_ | refine jk ?_
 first | refine jg (bVn jj jj b5) ?_ | refine jk ?_
 first | refine jq jj jj ?_ | refine jQ jj jj ?_
 refine jn<|jf jj<|jp<|js<|jr<|jm jj<|ja jj<|ja jj<|jn<|ji ?_
 exact ret2 rfl (.tmp rfl) (.tmp rfl) (PLe.refl _)
def idM : Nat → Nat → Int := fun i j => if i = j then 1 else 0
theorem hZH (n : Nat) (hn : 1 ≤ n) (hn8 : n ≤ 8) : FnG Tryz.prog En 49 ([ex (.int .i64 (n : Int))].map .one) [] (.gen (tupX 400 n)) (mbx 400 200 (fun i => i) n n (bZq idM n n)) := by
 have b1 : decide ((n : Int) < 1) = false := decide_eq_false oM
 have b2 : decide ((n : Int) > 16) = false := decide_eq_false oM
 have CZ := oZ4 En n n hn8 hn8
 have C1 := cZ5 En 1 oM oM
 refine aZr Tryz.func49 rfl Tryz.ntmps49 rfl ?_
 intro w0 h0 c
 refine js<|jr<|ja jj<|ja jj<|jn<|js<|js<|jr<|jm jj<|jS (bVl jj jj b1)<|jm jj (jgm jj (jg (bVg jj jj b2) (jQ jj jj (jn (jf jj (jp (js (jr (jm jj (jm jj (RG.SW (LT.plain jj (cZ1 400 200 CZ tB (by intro i hi; omega) jj)) jj (ja jj (jn (js (js (jr (jm jj (jS (aZE jj CSlice.ok) (jm jj (jn (jb ?_)))))))))))))))))))))
 refine WpD.loop (α := {i : Nat // i ≤ n}) (fun i => ⟨[(4, .own 400 0 n n), (16, .one (ex (.int .i64 (n : Int)))), (17, .one (ex (.int .i64 (i.1 : Int))))], (400, outL (fun j => ownP (200 + j) 0 n n) n) :: rws 200 (bZq (fun r c => if r = c ∧ r < i.1 then 1 else 0) n n)⟩) (fun i => n - i.1) ⟨0, Nat.zero_le _⟩ ?_ ?_
 ·dsimp only
  exact Sub.mk sJ ⟨.inl pQ, subBx.fam fFm (fun r _ => PsLe.of (congrFun (aZB fun a b _ _ => (by simp)) r)) trivial⟩ (LKeep.all ⟨.inr (aZp (π := fun i => i) (Fam.live fFm) oM oM), lkAll.fam rfl trivial⟩)
 rintro ⟨i, hi⟩
 dsimp only
 by_cases hin : i < n
 ·have he : bZq (fun r c => if r = c ∧ r < i then 1 else 0) n n i = rowL (fun c => aZL (if i = c ∧ i < i then 1 else 0)) n := aZ4 hin
  refine js<|jr<|jS (bLt jj jj)<|jn<|js<|jt jj<|jp<|js<|jb<|js<|jr<|jm jj<|ja jj<|jn<|jr<|jm jj<|jm jj<|jS (aZd jj jj aO) ?_
  refine jS (aZt jj jj aO jj aG)<|jm jj<|jS (aZa C1 tA)<|jS (aZd jj jj aO)<|RG.NW (LT.plain jj (eZp jj jj fFm aO aR aO (fun _ _ => jj))) jj ?_
  refine jn<|jr<|jS (bAd jj jj wO)<|jm jj<|jn ?_
  refine ⟨⟨i + 1, oM⟩, ?_, oD⟩
  dsimp only
  refine Sub.mk ?_ ⟨.inl pQ, subBx.fam fFm (fun r _ => PsLe.of (congrFun ((cZG hin).trans (aZB fun a b _ _ => ?_)) r)) trivial⟩ (LKeep.all ⟨.inr (aZp (π := fun i => i) (Fam.live fFm) oM oM), lkAll.fam rfl trivial⟩)
  ·repeat (first | exact trivial | refine jv rfl ?_ | refine jw rfl (js0 rfl) ?_)
  unfold upm
  by_cases h : a = i ∧ b = i
  ·rw [if_pos h, if_pos oM]
  ·rw [if_neg h]
   dsimp only
   by_cases h2 : a = b ∧ a < i
   ·rw [if_pos h2, if_pos oM]
   ·rw [if_neg h2, if_neg oM]
 ·refine js<|jr<|jS (bLf jj jj)<|jn<|js<|jf jj<|je<|js<|jr<|jm jj<|ja jj<|ja jj<|jn<|ji ?_
  refine retX2 rfl rfl rfl ⟨.inl pQ, subBx.fam fFm (fun r _ => PsLe.of (congrFun (aZB fun a b h1 _ => ?_) r)) trivial⟩ (LKeep.all ⟨.inr (aZp (Fam.live fFm) oM oM), lkAll.fam rfl trivial⟩)
  unfold idM
  by_cases h2 : a = b
  ·rw [if_pos h2, if_pos oM]
  ·rw [if_neg h2, if_neg oM]
end
end
end Go.Proofs.YtfmjdlogjmofbaaGreatDoor

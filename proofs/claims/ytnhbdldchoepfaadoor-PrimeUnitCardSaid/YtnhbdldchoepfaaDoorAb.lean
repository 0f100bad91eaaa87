/- An abstract walk: what is known of slots and of a call's own boxes; the order in which a region's operations come up does not matter. For any program. -/
import Derived.WalkKit
import Derived.Deep.MidRow
import Derived.Orders
import Derived.Deep.LoopGhost
namespace Go.Proofs.YtnhbdldchoepfaaDoor
open Go.RowKit

/-- Cells that stay as they are. -/
abbrev GH := Nat → Nat → Option Value
def Holds (h : GH) (w : World) : Prop := ∀ b o v, h b o = some v → w.cell? ⟨b, o, none⟩ = some v
def Le (h h' : GH) : Prop := ∀ b o v, h b o = some v → h' b o = some v
theorem Le.refl (h : GH) : Le h h := fun _ _ _ e => e
theorem Le.trans {a b c : GH} (h : Le a b) (k : Le b c) : Le a c := fun _ _ _ e => k _ _ _ (h _ _ _ e)
/-- What is known of a value; it stays known when more cells are known. -/
structure Pd where
  p : GH → Value → Prop
  mono : ∀ h h' v, Le h h' → p h v → p h' v
/-- What is known of the whole (tables), and the blocks in which it lies. -/
structure Ev where
  e : World → Prop
  S : Nat → Prop
  lt : ∀ w, e w → ∀ k, S k → k < w.heap.size
  mono : ∀ w w', (∀ k, S k → w'.heap[k]? = w.heap[k]?) → e w → e w'
/-- The blocks of the caller's that a call may write; the blocks of the boxes that it was handed (their numbers are 1000 and more). -/
structure Cx where
  M : Nat → Prop
  B : Nat → Nat
def c0 : Cx := ⟨fun _ => False, fun _ => 0⟩
/-- What was there is as it was, but for such blocks. -/
structure BelowM (M : Nat → Prop) (w w' : World) : Prop where
  os : w'.os = w.os
  tape : w'.tape = w.tape
  output : w'.output = w.output
  size : w.heap.size ≤ w'.heap.size
  block : ∀ k, k < w.heap.size → ¬ M k → w'.heap[k]? = w.heap[k]?
theorem BelowM.refl (M : Nat → Prop) (w : World) : BelowM M w w := ⟨rfl, rfl, rfl, Nat.le_refl _, fun _ _ _ => rfl⟩
theorem BelowM.toBelow {w w' : World} (h : BelowM (fun _ => False) w w') : Below w.heap.size w w' := ⟨h.os, h.tape, h.output, h.size, fun k hk => h.block k hk (fun h => h)⟩
theorem BelowM.trans {M : Nat → Prop} {w w1 w2 : World} (h : BelowM M w w1) (k : BelowM M w1 w2) : BelowM M w w2 := ⟨k.os.trans h.os, k.tape.trans h.tape, k.output.trans h.output, Nat.le_trans h.size k.size, fun i hi hm => (k.block i (Nat.lt_of_lt_of_le hi h.size) hm).trans (h.block i hi hm)⟩
theorem BelowM.below {M : Nat → Prop} {w w1 w2 : World} (h : BelowM M w w1) (k : Below w1.heap.size w1 w2) : BelowM M w w2 := h.trans ⟨k.os, k.tape, k.output, k.size, fun i hi _ => k.block i hi⟩
theorem BelowM.drew {M : Nat → Prop} {w w1 : World} (h : BelowM M w w1) : BelowM M w w1.drew := ⟨h.os, h.tape, h.output, h.size, h.block⟩
def ex (v : Value) : Pd := ⟨fun _ u => u = v, fun _ _ _ _ h => h⟩
/-- Values of one cell each. -/
def All2 (h : GH) : List Pd → List Value → Prop
  | [], [] => True
  | p :: ps, v :: vs => p.p h v ∧ v.oneCell' = true ∧ All2 h ps vs
  | _, _ => False
theorem All2.mono {h h' : GH} (hl : Le h h') : ∀ {ps : List Pd} {vs : List Value}, All2 h ps vs → All2 h' ps vs
  | [], [], _ => trivial
  | _ :: _, _ :: _, ⟨a, b, c⟩ => ⟨Pd.mono _ _ _ _ hl a, b, All2.mono hl c⟩
  | [], _ :: _, h => h.elim
  | _ :: _, [], h => h.elim
theorem All2.length {h : GH} : ∀ {ps : List Pd} {vs : List Value}, All2 h ps vs → ps.length = vs.length
  | [], [], _ => rfl
  | _ :: _, _ :: _, ⟨_, _, c⟩ => by simp [All2.length c]
  | [], _ :: _, h => h.elim
  | _ :: _, [], h => h.elim
theorem All2.one {h : GH} : ∀ {ps : List Pd} {vs : List Value}, All2 h ps vs → ∀ v ∈ vs, v.oneCell' = true
  | [], [], _, v, hv => by simp at hv
  | _ :: _, _ :: _, ⟨_, b, c⟩, v, hv => by
    rcases List.mem_cons.1 hv with rfl | hv
    · exact b
    · exact All2.one c v hv
  | [], _ :: _, h, _, _ => h.elim
  | _ :: _, [], h, _, _ => h.elim
theorem All2.get {h : GH} : ∀ {ps : List Pd} {vs : List Value}, All2 h ps vs → ∀ {i : Nat} {p : Pd}, ps[i]? = some p → ∃ v, vs[i]? = some v ∧ p.p h v ∧ v.oneCell' = true
  | [], [], _, i, p, hp => by simp at hp
  | _ :: _, v :: _, ⟨a, b, c⟩, 0, p, hp => by simp at hp; subst hp; exact ⟨v, rfl, a, b⟩
  | _ :: _, _ :: _, ⟨a, b, c⟩, i + 1, p, hp => by simpa using All2.get c (by simpa using hp)
  | [], _ :: _, h, _, _, _ => h.elim
  | _ :: _, [], h, _, _, _ => h.elim
theorem All2.drop {h : GH} : ∀ {ps : List Pd} {vs : List Value}, All2 h ps vs → ∀ (i : Nat), All2 h (ps.drop i) (vs.drop i)
  | [], [], _, i => by simp [All2]
  | _ :: _, _ :: _, h, 0 => h
  | _ :: _, _ :: _, ⟨_, _, c⟩, i + 1 => by simpa using All2.drop c i
  | [], _ :: _, h, _ => h.elim
  | _ :: _, [], h, _ => h.elim
theorem All2.take {h : GH} : ∀ {ps : List Pd} {vs : List Value}, All2 h ps vs → ∀ (i : Nat), All2 h (ps.take i) (vs.take i)
  | [], [], _, i => by simp [All2]
  | _ :: _, _ :: _, h, 0 => by simp [All2]
  | _ :: _, _ :: _, ⟨a, b, c⟩, i + 1 => by simpa [All2] using ⟨a, b, All2.take c i⟩
  | [], _ :: _, h, _ => h.elim
  | _ :: _, [], h, _ => h.elim
theorem All2.append {h : GH} : ∀ {ps qs : List Pd} {vs us : List Value}, All2 h ps vs → All2 h qs us → All2 h (ps ++ qs) (vs ++ us)
  | [], _, [], _, _, k => k
  | _ :: _, _, _ :: _, _, ⟨a, b, c⟩, k => ⟨a, b, All2.append c k⟩
  | [], _, _ :: _, _, h, _ => h.elim
  | _ :: _, _, [], _, h, _ => h.elim
/-- Values of whatever size. -/
def AllV (h : GH) : List Pd → List Value → Prop
  | [], [] => True
  | p :: ps, v :: vs => p.p h v ∧ AllV h ps vs
  | _, _ => False
theorem AllV.mono {h h' : GH} (hl : Le h h') : ∀ {ps : List Pd} {vs : List Value}, AllV h ps vs → AllV h' ps vs
  | [], [], _ => trivial
  | _ :: _, _ :: _, ⟨a, c⟩ => ⟨Pd.mono _ _ _ _ hl a, AllV.mono hl c⟩
  | [], _ :: _, h => h.elim
  | _ :: _, [], h => h.elim
theorem AllV.get {h : GH} : ∀ {ps : List Pd} {vs : List Value}, AllV h ps vs → ∀ {i : Nat} {p : Pd}, ps[i]? = some p → ∃ v, vs[i]? = some v ∧ p.p h v
  | [], [], _, i, p, hp => by simp at hp
  | _ :: _, v :: _, ⟨a, c⟩, 0, p, hp => by simp at hp; subst hp; exact ⟨v, rfl, a⟩
  | _ :: _, _ :: _, ⟨a, c⟩, i + 1, p, hp => by simpa using AllV.get c (by simpa using hp)
  | [], _ :: _, h, _, _, _ => h.elim
  | _ :: _, [], h, _, _, _ => h.elim
theorem AllV.length {h : GH} : ∀ {ps : List Pd} {vs : List Value}, AllV h ps vs → ps.length = vs.length
  | [], [], _ => rfl
  | _ :: _, _ :: _, ⟨_, c⟩ => by simp [AllV.length c]
  | [], _ :: _, h => h.elim
  | _ :: _, [], h => h.elim
def aggP (ps : List Pd) : Pd := ⟨fun h v => ∃ vs : List Value, v = .agg vs.toArray ∧ All2 h ps vs, fun _ _ _ hl ⟨vs, e, a⟩ => ⟨vs, e, a.mono hl⟩⟩
def tupP (ps : List Pd) : Pd := ⟨fun h v => ∃ vs : List Value, v = .tuple vs.toArray ∧ AllV h ps vs, fun _ _ _ hl ⟨vs, e, a⟩ => ⟨vs, e, a.mono hl⟩⟩
/-- What implies what. -/
def PLe (p q : Pd) : Prop := ∀ h v, p.p h v → q.p h v
theorem PLe.refl (p : Pd) : PLe p p := fun _ _ h => h
/-- A value of one cell. -/
class C1 (p : Pd) : Prop where
  c1 : ∀ h v, p.p h v → v.oneCell' = true
instance (b : Bool) : C1 (ex (.bool b)) := ⟨fun _ _ h => by rw [h]; rfl⟩
instance (k : IntKind) (n : Int) : C1 (ex (.int k n)) := ⟨fun _ _ h => by rw [h]; rfl⟩
instance (a : Option Addr) (n c : Nat) : C1 (ex (.slice a n c)) := ⟨fun _ _ h => by rw [h]; rfl⟩
instance (s : ByteArray) : C1 (ex (.string s)) := ⟨fun _ _ h => by rw [h]; rfl⟩

/-- What is known of a slot. -/
inductive SD where
  | one (p : Pd)
  | ptr (b o : Nat)
  | own (b o len cap : Nat)
def SD.ok (h : GH) (β : Nat → Nat) (v : Value) : SD → Prop
  | .one p => p.p h v
  | .ptr b o => v = .pointer (some ⟨β b, o, none⟩)
  | .own b o len cap => ∃ cap', v = .slice (some ⟨β b, o, none⟩) len cap' ∧ cap ≤ cap' ∧ cap' ≤ maxLen
def look {α : Type} : List (Nat × α) → Nat → Option α
  | [], _ => none
  | (k, x) :: l, t => cond (Nat.beq k t) (some x) (look l t)
theorem look_cons {α : Type} (k : Nat) (x : α) (l : List (Nat × α)) (t : Nat) : look ((k, x) :: l) t = if k = t then some x else look l t := by
  show cond (Nat.beq k t) _ _ = _
  by_cases h : k = t
  · subst h; simp
  · have : Nat.beq k t = false := by cases hh : Nat.beq k t; rfl; exact absurd (Nat.eq_of_beq_eq_true hh) h
    rw [this, if_neg h]; rfl
theorem look_append {α : Type} (l m : List (Nat × α)) (t : Nat) : look (l ++ m) t = (look l t).or (look m t) := by
  induction l with
  | nil => simp [look]
  | cons x l ih =>
    obtain ⟨k, x⟩ := x
    rw [List.cons_append, look_cons, look_cons, ih]
    split <;> simp
theorem look_none {α : Type} {l : List (Nat × α)} {t : Nat} (h : t ∉ l.map (·.1)) : look l t = none := by
  induction l with
  | nil => rfl
  | cons x l ih =>
    obtain ⟨k, x⟩ := x
    simp at h
    rw [look_cons, if_neg (fun e => h.1 (Eq.symm e)), ih (by simpa using h.2)]
theorem look_some_mem {α : Type} {l : List (Nat × α)} {t : Nat} {x : α} (h : look l t = some x) : (t, x) ∈ l := by
  induction l with
  | nil => cases h
  | cons y l ih =>
    obtain ⟨k, y⟩ := y
    rw [look_cons] at h
    split at h
    · rename_i e; subst e; cases h; simp
    · exact List.mem_cons_of_mem _ (ih h)
abbrev Bx := List (Nat × List Pd)
abbrev Sl := List (Nat × SD)
def SD.live (bx : Bx) : SD → Prop
  | .one _ => True
  | .ptr b _ => look bx b ≠ none
  | .own b _ _ _ => look bx b ≠ none
theorem SD.ok_mono {h h' : GH} {β β' : Nat → Nat} {bx : Bx} {v : Value} {sd : SD} (hs : sd.ok h β v) (hl : sd.live bx) (hle : Le h h') (hβ : ∀ i, look bx i ≠ none → β' i = β i) : sd.ok h' β' v := by
  cases sd with
  | one p => exact p.mono _ _ _ hle hs
  | ptr b o => show v = _; rw [hβ b hl]; exact hs
  | own b o len cap => show ∃ cap', v = _ ∧ _; rw [hβ b hl]; exact hs
theorem SD.live_append {bx wb : Bx} {sd : SD} (hl : sd.live bx) : sd.live (wb ++ bx) := by
  have : ∀ b, look bx b ≠ none → look (wb ++ bx) b ≠ none := fun b hb => by rw [look_append]; cases hq : look wb b <;> simp; exact hb
  cases sd with
  | one p => trivial
  | ptr b o => exact this b hl
  | own b o len cap => exact this b hl
/-- The world, the cells known for good, the call's own boxes. -/
structure Inv (En : Ev) (w0 : World) (h0 : GH) (c : Cx) (h : GH) (β : Nat → Nat) (bx : Bx) (w : World) : Prop where
  env : En.e w0
  holds : Holds h w
  le0 : Le h0 h
  fresh : ∀ b o v, h b o = some v → h0 b o = none → w0.heap.size ≤ b
  below : BelowM c.M w0 w
  dis : ∀ k, c.M k → ¬ En.S k
  pin : ∀ i, 1000 ≤ i → β i = c.B i
  box : ∀ i ps, look bx i = some ps → ((i < 1000 → w0.heap.size ≤ β i) ∧ (1000 ≤ i → c.M (β i))) ∧ (∀ o, h (β i) o = none) ∧ ∃ (vs rest : List Value) (T : TypeId), w.heap[β i]? = some (.cells (vs ++ rest).toArray T (0, 0)) ∧ All2 h ps vs
  inj : ∀ i j, look bx i ≠ none → look bx j ≠ none → β i = β j → i = j
structure Slots (n : Nat) (h : GH) (β : Nat → Nat) (sl : Sl) (bx : Bx) (a : Act) : Prop where
  defers : a.defers = []
  size : a.tmps.size = n
  slot : ∀ t sd, look sl t = some sd → ∃ v, a.tmps[t]? = some v ∧ sd.ok h β v ∧ sd.live bx
/-- The abstract state. -/
structure St where
  sl : Sl
  bx : Bx
def Gam (En : Ev) (n : Nat) (w0 : World) (h0 : GH) (c : Cx) (σ : St) (a : Act) (w : World) : Prop :=
  ∃ h β, Inv En w0 h0 c h β σ.bx w ∧ Slots n h β σ.sl σ.bx a
/-- Two lists that read alike. -/
def Alike {α : Type} (l m : List (Nat × α)) : Prop := ∀ t, look l t = look m t
theorem SD.live_alike {bx bx' : Bx} (h : Alike bx bx') (sd : SD) : sd.live bx ↔ sd.live bx' := by
  cases sd with
  | one p => exact Iff.rfl
  | ptr b o => show look bx b ≠ none ↔ look bx' b ≠ none; rw [h b]
  | own b o l k => show look bx b ≠ none ↔ look bx' b ≠ none; rw [h b]
theorem Inv.alike {En : Ev} {w0 : World} {h0 : GH} {c : Cx} {h : GH} {β : Nat → Nat} {bx bx' : Bx} {w : World} (hi : Inv En w0 h0 c h β bx w) (ha : Alike bx bx') : Inv En w0 h0 c h β bx' w :=
  ⟨hi.env, hi.holds, hi.le0, hi.fresh, hi.below, hi.dis, hi.pin, fun i ps hp => hi.box i ps (by rw [ha i]; exact hp), fun i j h1 h2 => hi.inj i j (by rw [ha i]; exact h1) (by rw [ha j]; exact h2)⟩
theorem Slots.alike {n : Nat} {h : GH} {β : Nat → Nat} {sl sl' : Sl} {bx bx' : Bx} {a : Act} (hs : Slots n h β sl bx a) (h1 : Alike sl sl') (h2 : Alike bx bx') : Slots n h β sl' bx' a :=
  ⟨hs.defers, hs.size, fun t sd e => by
    obtain ⟨v, x, y, z⟩ := hs.slot t sd (by rw [h1 t]; exact e)
    exact ⟨v, x, y, (SD.live_alike h2 sd).1 z⟩⟩
theorem Gam.alike {En : Ev} {n : Nat} {w0 : World} {h0 : GH} {c : Cx} {σ τ : St} {a : Act} {w : World} (h : Gam En n w0 h0 c σ a w) (h1 : Alike σ.sl τ.sl) (h2 : Alike σ.bx τ.bx) : Gam En n w0 h0 c τ a w := by
  obtain ⟨h', β, hi, hs⟩ := h
  exact ⟨h', β, hi.alike h2, hs.alike h1 h2⟩

/-! ### What the steps do to the world -/
section
variable {En : Ev} {w0 : World} {h0 : GH} {c : Cx} {h : GH} {β : Nat → Nat} {bx : Bx} {w : World}
theorem block_lt {b : Nat} {o : Obj} (h : w.heap[b]? = some o) : b < w.heap.size := (Array.getElem?_eq_some_iff.1 h).1
theorem Holds.lt (hh : Holds h w) {b o : Nat} {v : Value} (e : h b o = some v) : b < w.heap.size := by
  have := hh b o v e
  unfold World.cell? at this
  cases hb : w.heap[b]? with
  | none => simp [hb] at this
  | some x => exact block_lt hb
theorem Inv.envNow (hi : Inv En w0 h0 c h β bx w) : En.e w := En.mono _ _ (fun k hk => hi.below.block k (En.lt _ hi.env k hk) (fun hm => hi.dis k hm hk)) hi.env
theorem Inv.drew (hi : Inv En w0 h0 c h β bx w) : Inv En w0 h0 c h β bx w.drew :=
  ⟨hi.env, hi.holds, hi.le0, hi.fresh, hi.below.drew, hi.dis, hi.pin, hi.box, hi.inj⟩
def upd (β : Nat → Nat) (i b : Nat) : Nat → Nat := fun j => if j = i then b else β j
theorem Inv.alloc (hi : Inv En w0 h0 c h β bx w) (i : Nat) (hi0 : i < 1000) {ps : List Pd} {vs : List Value} (ha : All2 h ps vs) (T : TypeId) :
    Inv En w0 h0 c h (upd β i w.heap.size) ((i, ps) :: bx) (w.alloc (.cells vs.toArray T)) := by
  have hsz := hi.below.size
  refine ⟨hi.env, fun b o v e => ?_, hi.le0, hi.fresh, hi.below.below ((Below.refl _ _).alloc (Nat.le_refl _) _), hi.dis, fun j hj => ?_, fun j qs hj => ?_, fun j k hj hk e => ?_⟩
  · rw [World.cell?_of_block (w := w) (a := ⟨b, o, none⟩) (Below.heap_alloc w _ b (hi.holds.lt e))]
    exact hi.holds b o v e
  · rw [← hi.pin j hj]; unfold upd; rw [if_neg (by omega)]
  · rw [look_cons] at hj
    by_cases e : i = j
    · subst e
      rw [if_pos rfl] at hj
      cases hj
      have eu : upd β i w.heap.size i = w.heap.size := by unfold upd; rw [if_pos rfl]
      rw [eu]
      refine ⟨⟨fun _ => hsz, fun h => absurd hi0 (by omega)⟩, fun o => ?_, vs, [], T, by rw [List.append_nil]; exact heap_alloc_new w _, ha⟩
      cases hh : h w.heap.size o with
      | none => rfl
      | some v => exact absurd (hi.holds.lt hh) (Nat.lt_irrefl _)
    · rw [if_neg e] at hj
      have eu : upd β i w.heap.size j = β j := by unfold upd; rw [if_neg (fun h => e (Eq.symm h))]
      rw [eu]
      obtain ⟨h1, h2, us, rs, T', h3, h4⟩ := hi.box j qs hj
      exact ⟨h1, h2, us, rs, T', by rw [Below.heap_alloc w _ _ (block_lt h3)]; exact h3, h4⟩
  · have hlt : ∀ k, look bx k ≠ none → β k < w.heap.size := fun k hk => by
      obtain ⟨qs, hq⟩ := Option.ne_none_iff_exists'.1 hk
      obtain ⟨_, _, us, rs, T', h3, _⟩ := hi.box k qs hq
      exact block_lt h3
    rw [look_cons] at hj hk
    unfold upd at e
    by_cases e1 : j = i <;> by_cases e2 : k = i
    · rw [e1, e2]
    · rw [if_pos e1, if_neg e2] at e
      rw [if_neg (fun h => e2 (Eq.symm h))] at hk
      have := hlt k hk
      omega
    · rw [if_neg e1, if_pos e2] at e
      rw [if_neg (fun h => e1 (Eq.symm h))] at hj
      have := hlt j hj
      omega
    · rw [if_neg e1, if_neg e2] at e
      rw [if_neg (fun h => e1 (Eq.symm h))] at hj
      rw [if_neg (fun h => e2 (Eq.symm h))] at hk
      exact hi.inj j k hj hk e
/-- A list, some of whose places are written. -/
def putL {α : Type} : List α → Nat → List α → List α
  | l, _, [] => l
  | l, o, x :: xs => putL (l.set o x) (o + 1) xs
theorem All2.set {h : GH} : ∀ {ps : List Pd} {vs : List Value}, All2 h ps vs → ∀ (o : Nat) {p : Pd} {v : Value}, p.p h v → v.oneCell' = true → All2 h (ps.set o p) (vs.set o v)
  | [], [], _, o, _, _, _, _ => by simp [All2]
  | _ :: _, _ :: _, ⟨_, _, c⟩, 0, _, _, hp, h1 => ⟨hp, h1, c⟩
  | _ :: _, _ :: _, ⟨a, b, c⟩, o + 1, _, _, hp, h1 => ⟨a, b, All2.set c o hp h1⟩
  | [], _ :: _, h, _, _, _, _, _ => h.elim
  | _ :: _, [], h, _, _, _, _, _ => h.elim
theorem All2.put {h : GH} : ∀ {qs : List Pd} {us : List Value} {ps : List Pd} {vs : List Value} (o : Nat), All2 h ps vs → All2 h qs us → All2 h (putL ps o qs) (putL vs o us)
  | [], [], _, _, _, a, _ => a
  | _ :: _, _ :: _, _, _, o, a, ⟨x, y, z⟩ => All2.put (o + 1) (a.set o x y) z
  | [], _ :: _, _, _, _, _, h => h.elim
  | _ :: _, [], _, _, _, _, h => h.elim
theorem heap_setCells {b : Nat} : ∀ (us : List Value) (o : Nat) (w : World) (vs : List Value) (T : TypeId) (fr : Nat × Nat), w.heap[b]? = some (.cells vs.toArray T fr) → (w.setCells b o us).heap[b]? = some (.cells (putL vs o us).toArray T fr)
  | [], _, _, _, _, _, h => h
  | u :: us, o, w, vs, T, fr, h => by
    rw [World.setCells]
    refine heap_setCells us (o + 1) _ _ T fr ?_
    simp [World.setCell, Array.getElem?_modify, h]
theorem heap_setCells_ne {b k : Nat} (hk : k ≠ b) : ∀ (us : List Value) (o : Nat) (w : World), (w.setCells b o us).heap[k]? = w.heap[k]?
  | [], _, _ => rfl
  | u :: us, o, w => by
    rw [World.setCells, heap_setCells_ne hk us (o + 1), Below.heap_setCell _ _ _ _ hk]
theorem size_setCells {b : Nat} : ∀ (us : List Value) (o : Nat) (w : World), (w.setCells b o us).heap.size = w.heap.size
  | [], _, _ => rfl
  | u :: us, o, w => by rw [World.setCells, size_setCells us (o + 1)]; simp [World.setCell]
theorem os_setCells {b : Nat} : ∀ (us : List Value) (o : Nat) (w : World), (w.setCells b o us).os = w.os ∧ (w.setCells b o us).tape = w.tape ∧ (w.setCells b o us).output = w.output
  | [], _, _ => ⟨rfl, rfl, rfl⟩
  | u :: us, o, w => by rw [World.setCells]; exact os_setCells us (o + 1) _
theorem below_setCells {M : Nat → Prop} {b : Nat} {a : World} (hb : a.heap.size ≤ b ∨ M b) (us : List Value) (o : Nat) (w : World) (h : BelowM M a w) : BelowM M a (w.setCells b o us) := by
  obtain ⟨e1, e2, e3⟩ := os_setCells (b := b) us o w
  refine ⟨e1.trans h.os, e2.trans h.tape, e3.trans h.output, by rw [size_setCells]; exact h.size, fun k hk hm => ?_⟩
  have hne : k ≠ b := by rintro rfl; rcases hb with hb | hb; omega; exact hm hb
  rw [heap_setCells_ne hne]; exact h.block k hk hm
theorem putL_append {α : Type} (rest : List α) : ∀ (us vs : List α) (o : Nat), o + us.length ≤ vs.length → putL (vs ++ rest) o us = putL vs o us ++ rest
  | [], _, _, _ => rfl
  | u :: us, vs, o, h => by
    simp only [List.length_cons] at h
    simp only [putL]
    rw [List.set_append_left _ _ (by omega)]
    exact putL_append rest us _ _ (by simp; omega)
theorem Inv.store (hi : Inv En w0 h0 c h β bx w) {i : Nat} {ps : List Pd} (hp : look bx i = some ps) {qs : List Pd} {us : List Value} (ha : All2 h qs us) (o : Nat) (hb : o + qs.length ≤ ps.length) :
    Inv En w0 h0 c h β ((i, putL ps o qs) :: bx) (w.setCells (β i) o us) := by
  obtain ⟨h1, h2, vs, rest, T, h3, h4⟩ := hi.box i ps hp
  have hne : ∀ j, look ((i, putL ps o qs) :: bx) j ≠ none → look bx j ≠ none := fun j hj => by
    rw [look_cons] at hj
    by_cases e : i = j
    · subst e; rw [hp]; simp
    · rwa [if_neg e] at hj
  refine ⟨hi.env, fun b o' v e => ?_, hi.le0, hi.fresh, below_setCells (by rcases Nat.lt_or_ge i 1000 with h | h; exact .inl (h1.1 h); exact .inr (h1.2 h)) _ _ _ hi.below, hi.dis, hi.pin, fun j rs hj => ?_, fun j k hj hk e => hi.inj j k (hne j hj) (hne k hk) e⟩
  · have hb : b ≠ β i := by rintro rfl; rw [h2 o'] at e; cases e
    rw [World.cell?_of_block (w := w) (a := ⟨b, o', none⟩) (heap_setCells_ne hb _ _ _)]
    exact hi.holds b o' v e
  · rw [look_cons] at hj
    by_cases e : i = j
    · subst e
      rw [if_pos rfl] at hj
      cases hj
      refine ⟨h1, h2, _, rest, T, ?_, h4.put o ha⟩
      rw [heap_setCells us o w _ T _ h3, putL_append rest us vs o (by rw [← ha.length, ← h4.length]; exact hb)]
    · rw [if_neg e] at hj
      obtain ⟨g1, g2, us', rs', T', g3, g4⟩ := hi.box j rs hj
      refine ⟨g1, g2, us', rs', T', ?_, g4⟩
      rw [heap_setCells_ne (fun hh => e (hi.inj i j (by rw [hp]; simp) (by rw [hj]; simp) hh.symm))]
      exact g3
theorem Inv.call (hi : Inv En w0 h0 c h β bx w) {h' : GH} {w' : World} (hl : Le h h') (hh : Holds h' w') (hf : ∀ b o v, h' b o = some v → h b o = none → w.heap.size ≤ b) (hb : Below w.heap.size w w') :
    Inv En w0 h0 c h' β bx w' := by
  have hsz := hi.below.size
  refine ⟨hi.env, hh, hi.le0.trans hl, fun b o v e e0 => ?_, hi.below.below hb, hi.dis, hi.pin, fun j ps hj => ?_, hi.inj⟩
  · cases he : h b o with
    | none => exact Nat.le_trans hsz (hf b o v e he)
    | some u => exact hi.fresh b o u he e0
  · obtain ⟨g1, g2, us, rs, T, g3, g4⟩ := hi.box j ps hj
    refine ⟨g1, fun o => ?_, us, rs, T, by rw [hb.block _ (block_lt g3)]; exact g3, g4.mono hl⟩
    cases he : h' (β j) o with
    | none => rfl
    | some u =>
      have := hf _ _ _ he (g2 o)
      have := block_lt g3
      omega
end

/-! ### An operation -/
structure Eff where
  sd : SD
  rb : List Nat
  wb : Bx
/-- What an operation does, at an abstract state. -/
def Tri (P : Program) (En : Ev) (n : Nat) (o : Oper) (sl : Sl) (bx : Bx) (e : Eff) : Prop :=
  ∀ w0 h0 c h β a w (Q : Exit → Act → World → Prop), Inv En w0 h0 c h β bx w → Slots n h β sl bx a →
    o.wp P a w (fun a' w' => ∃ v h' β', a' = a.put o.dst v ∧ Inv En w0 h0 c h' β' (e.wb ++ bx) w' ∧ Le h h' ∧ (∀ i, look bx i ≠ none → β' i = β i) ∧ e.sd.ok h' β' v ∧ e.sd.live (e.wb ++ bx)) Q
/-- The same, its guard looked at. -/
def TriG (P : Program) (En : Ev) (n : Nat) (ops : Array Oper) (o : Oper) (sl : Sl) (bx : Bx) (e : Eff) : Prop :=
  ∀ w0 h0 c h β a w (Q : Exit → Act → World → Prop), Inv En w0 h0 c h β bx w → Slots n h β sl bx a →
    ∀ K : Act → World → Prop, (∀ a' w', (∃ v h' β', a' = a.put o.dst v ∧ Inv En w0 h0 c h' β' (e.wb ++ bx) w' ∧ Le h h' ∧ (∀ i, look bx i ≠ none → β' i = β i) ∧ e.sd.ok h' β' v ∧ e.sd.live (e.wb ++ bx)) → K a' w') →
    (if Region.wanted o (yielded ops a.tmps) then o.wp P a w K Q ∨ (o.asks P a w ∧ LetsOut Q) else K (a.put o.dst undef) w)
def LT (P : Program) (En : Ev) (n : Nat) (ops : Array Oper) (o : Oper) (sl : Sl) (bx : Bx) (e : Eff) : Prop :=
  ∀ sl' bx', (∀ t ∈ o.looksAt ops, look sl' t = look sl t) → (∀ b ∈ e.rb, look bx' b = look bx b) → (∀ b ∈ e.wb.map (·.1), look bx' b = look bx b) → TriG P En n ops o sl' bx' e
section
variable {P : Program} {En : Ev} {n : Nat} {ops : Array Oper} {o : Oper} {sl : Sl} {bx : Bx} {e : Eff}
theorem TriG.of_tri (hg : o.guard = none) (h : Tri P En n o sl bx e) : TriG P En n ops o sl bx e := by
  intro w0 h0 c hh β a w Q hi hs K hK
  have : Region.wanted o (yielded ops a.tmps) = true := by simp [Region.wanted, hg]
  rw [if_pos this]
  exact .inl (Oper.wp_mono hK (h w0 h0 c hh β a w Q hi hs))
theorem TriG.of_run {g t : Nat} {b : Bool} (hg : o.guard = some (g, b)) (hd : (ops[g]?).bind (·.dst) = some t) (ht : look sl t = some (.one (ex (.bool b)))) (h : Tri P En n o sl bx e) : TriG P En n ops o sl bx e := by
  intro w0 h0 c hh β a w Q hi hs K hK
  obtain ⟨v, hv, hok, _⟩ := hs.slot t _ ht
  have hv' : v = .bool b := hok
  subst hv'
  have : Region.wanted o (yielded ops a.tmps) = true := by simp [Region.wanted, hg, yielded, hd, hv]
  rw [if_pos this]
  exact .inl (Oper.wp_mono hK (h w0 h0 c hh β a w Q hi hs))
theorem TriG.of_skip {g t : Nat} {b : Bool} (hg : o.guard = some (g, b)) (hd : (ops[g]?).bind (·.dst) = some t) (ht : look sl t = some (.one (ex (.bool (!b))))) : TriG P En n ops o sl bx ⟨.one (ex undef), [], []⟩ := by
  intro w0 h0 c hh β a w Q hi hs K hK
  obtain ⟨v, hv, hok, _⟩ := hs.slot t _ ht
  have hv' : v = .bool (!b) := hok
  subst hv'
  have : Region.wanted o (yielded ops a.tmps) = false := by simp [Region.wanted, hg, yielded, hd, hv]
  rw [this]
  simp only [Bool.false_eq_true, if_false]
  exact hK _ _ ⟨undef, hh, β, rfl, hi, Le.refl _, fun _ _ => rfl, rfl, trivial⟩
end

/-! ### A region: its operations in the text's order; whatever order comes up -/
def upd1 (σ : St) (o : Oper) (e : Eff) : St := ⟨match o.dst with | some d => (d, e.sd) :: σ.sl | none => σ.sl, e.wb ++ σ.bx⟩
theorem upd1_sl (σ : St) (o : Oper) (e : Eff) (t : Nat) (ht : ∀ d, o.dst = some d → d ≠ t) : look (upd1 σ o e).sl t = look σ.sl t := by
  unfold upd1
  cases hd : o.dst with
  | none => rfl
  | some d => simp only; rw [look_cons, if_neg (ht d hd)]
theorem upd1_bx (σ : St) (o : Oper) (e : Eff) (b : Nat) (hb : b ∉ e.wb.map (·.1)) : look (upd1 σ o e).bx b = look σ.bx b := by
  show look (e.wb ++ σ.bx) b = _
  rw [look_append, look_none hb]; simp
theorem put_get_ne {a : Act} {dst : Option Tmp} {v : Value} {t : Nat} (h : ∀ d, dst = some d → d ≠ t) : (a.put dst v).tmps[t]? = a.tmps[t]? := by
  cases dst with
  | none => rfl
  | some d => simp [Act.put, Array.getElem?_setIfInBounds_ne (h d rfl)]
theorem gam_step {En : Ev} {n : Nat} {w0 : World} {h0 : GH} {c : Cx} {h h' : GH} {β β' : Nat → Nat} {σ : St} {a : Act} {w' : World} {o : Oper} {e : Eff} {v : Value} (hd : ∀ d, o.dst = some d → d < n)
    (hs : Slots n h β σ.sl σ.bx a) (hi : Inv En w0 h0 c h' β' (e.wb ++ σ.bx) w') (hl : Le h h') (hβ : ∀ i, look σ.bx i ≠ none → β' i = β i) (hok : e.sd.ok h' β' v) (hlive : e.sd.live (e.wb ++ σ.bx)) :
    Gam En n w0 h0 c (upd1 σ o e) (a.put o.dst v) w' := by
  refine ⟨h', β', hi, ?_, ?_, fun t sd ht => ?_⟩
  · cases o.dst <;> exact hs.defers
  · cases o.dst <;> simp [Act.put, hs.size]
  · have old : look σ.sl t = some sd → ∃ v, a.tmps[t]? = some v ∧ sd.ok h' β' v ∧ sd.live (e.wb ++ σ.bx) := fun ht => by
      obtain ⟨u, hu, ho, hv⟩ := hs.slot t sd ht
      exact ⟨u, hu, SD.ok_mono ho hv hl hβ, SD.live_append hv⟩
    cases hdd : o.dst with
    | none =>
      unfold upd1 at ht
      rw [hdd] at ht
      exact old ht
    | some d =>
      unfold upd1 at ht
      rw [hdd] at ht
      simp only at ht
      rw [look_cons] at ht
      by_cases hq : d = t
      · subst hq
        rw [if_pos rfl] at ht
        cases ht
        exact ⟨v, by simp [Act.put, hs.size, hd d hdd], hok, hlive⟩
      · rw [if_neg hq] at ht
        obtain ⟨u, hu, hr⟩ := old ht
        exact ⟨u, by rw [put_get_ne (fun d' h' => by cases h'; exact hq)]; exact hu, hr⟩
abbrev It := Nat × Oper × Eff
section
variable (P : Program) (En : Ev) (n : Nat) (ops : Array Oper)
def CR : List It → St → Prop
  | [], _ => True
  | (_, o, e) :: R, σ => LT P En n ops o σ.sl σ.bx e ∧ CR R (upd1 σ o e)
end
def fin : List It → St → St
  | [], σ => σ
  | (_, o, e) :: R, σ => fin R (upd1 σ o e)
structure SAlike (σ τ : St) : Prop where
  sl : Alike σ.sl τ.sl
  bx : Alike σ.bx τ.bx
theorem SAlike.upd {σ τ : St} (h : SAlike σ τ) (o : Oper) (e : Eff) : SAlike (upd1 σ o e) (upd1 τ o e) := by
  refine ⟨fun t => ?_, fun b => ?_⟩
  · unfold upd1
    cases o.dst with
    | none => exact h.sl t
    | some d => simp only; rw [look_cons, look_cons, h.sl t]
  · show look (e.wb ++ σ.bx) b = look (e.wb ++ τ.bx) b
    rw [look_append, look_append, h.bx b]
theorem fin_alike : ∀ (R : List It) {σ τ : St}, SAlike σ τ → SAlike (fin R σ) (fin R τ)
  | [], _, _, h => h
  | (_, o, e) :: R, _, _, h => fin_alike R (h.upd o e)
section
variable {P : Program} {En : Ev} {n : Nat} {ops : Array Oper}
theorem LT.congr {o : Oper} {e : Eff} {sl sl1 : Sl} {bx bx1 : Bx} (h : LT P En n ops o sl bx e) (h1 : ∀ t ∈ o.looksAt ops, look sl1 t = look sl t) (h2 : ∀ b ∈ e.rb, look bx1 b = look bx b) (h3 : ∀ b ∈ e.wb.map (·.1), look bx1 b = look bx b) :
    LT P En n ops o sl1 bx1 e := fun sl' bx' g1 g2 g3 =>
  h sl' bx' (fun t ht => (g1 t ht).trans (h1 t ht)) (fun b hb => (g2 b hb).trans (h2 b hb)) (fun b hb => (g3 b hb).trans (h3 b hb))
theorem cr_alike : ∀ (R : List It) {σ τ : St}, SAlike σ τ → CR P En n ops R σ → CR P En n ops R τ
  | [], _, _, _, _ => trivial
  | (_, o, e) :: R, _, _, h, ⟨a, b⟩ => ⟨a.congr (fun t _ => (h.sl t).symm) (fun t _ => (h.bx t).symm) (fun t _ => (h.bx t).symm), cr_alike R (h.upd o e) b⟩
/-- Nothing that the one writes the other looks at or writes. -/
def indep (ops : Array Oper) (x y : Oper × Eff) : Bool :=
  x.1.apart ops y.1 && (x.2.wb.map (·.1)).all (fun b => !y.2.rb.contains b && !(y.2.wb.map (·.1)).contains b) && x.2.rb.all (fun b => !(y.2.wb.map (·.1)).contains b)
theorem indep_spec {x y : Oper × Eff} (h : indep ops x y = true) :
    ((∀ d, x.1.dst = some d → d ∉ y.1.looksAt ops) ∧ (∀ d, x.1.dst = some d → y.1.dst ≠ some d) ∧ (∀ d, y.1.dst = some d → d ∉ x.1.looksAt ops)) ∧
    (∀ b ∈ x.2.wb.map (·.1), b ∉ y.2.rb ∧ b ∉ y.2.wb.map (·.1)) ∧ (∀ b ∈ x.2.rb, b ∉ y.2.wb.map (·.1)) := by
  unfold indep at h
  rw [Bool.and_eq_true, Bool.and_eq_true] at h
  obtain ⟨⟨h1, h2⟩, h3⟩ := h
  refine ⟨Oper.apart_spec h1, fun b hb => ?_, fun b hb => ?_⟩
  · have := List.all_eq_true.1 h2 b hb
    simp only [Bool.and_eq_true, Bool.not_eq_true', List.contains_eq_mem, decide_eq_false_iff_not] at this
    exact this
  · have := List.all_eq_true.1 h3 b hb
    simpa using this
theorem bubble {i : Nat} {o : Oper} {e : Eff} {B : List It} : ∀ (A : List It) (σ : St), (∀ y ∈ A, indep ops y.2 (o, e) = true) → CR P En n ops (A ++ (i, o, e) :: B) σ →
    LT P En n ops o σ.sl σ.bx e ∧ CR P En n ops (A ++ B) (upd1 σ o e) ∧ SAlike (fin (A ++ (i, o, e) :: B) σ) (fin (A ++ B) (upd1 σ o e))
  | [], σ, _, h => ⟨h.1, h.2, ⟨fun _ => rfl, fun _ => rfl⟩⟩
  | (j, o', e') :: A, σ, hA, ⟨h1, h2⟩ => by
    obtain ⟨g1, g2, g3⟩ := bubble A (upd1 σ o' e') (fun y hy => hA y (List.mem_cons_of_mem _ hy)) h2
    obtain ⟨⟨a1, a2, a3⟩, a4, a5⟩ := indep_spec (hA _ (List.mem_cons_self ..))
    simp only at a1 a2 a3 a4 a5
    have hx : LT P En n ops o σ.sl σ.bx e := g1.congr
      (fun t ht => (upd1_sl σ o' e' t (fun d hd hdt => a1 d hd (hdt ▸ ht))).symm)
      (fun b hb => (upd1_bx σ o' e' b (fun hb' => (a4 b hb').1 hb)).symm)
      (fun b hb => (upd1_bx σ o' e' b (fun hb' => (a4 b hb').2 hb)).symm)
    have hy : LT P En n ops o' (upd1 σ o e).sl (upd1 σ o e).bx e' := h1.congr
      (fun t ht => upd1_sl σ o e t (fun d hd hdt => a3 d hd (hdt ▸ ht)))
      (fun b hb => upd1_bx σ o e b (fun hb' => a5 b hb hb'))
      (fun b hb => upd1_bx σ o e b (fun hb' => (a4 b hb).2 hb'))
    have hsw : SAlike (upd1 (upd1 σ o' e') o e) (upd1 (upd1 σ o e) o' e') := by
      refine ⟨fun t => ?_, fun b => ?_⟩
      · unfold upd1
        cases hd : o.dst with
        | none => cases hd' : o'.dst <;> rfl
        | some d =>
          cases hd' : o'.dst with
          | none => rfl
          | some d' =>
            simp only
            have hne : d' ≠ d := fun he => a2 d' hd' (he ▸ hd)
            rw [look_cons, look_cons, look_cons, look_cons]
            by_cases q1 : d = t
            · subst q1; rw [if_pos rfl, if_neg hne, if_pos rfl]
            · rw [if_neg q1, if_neg q1]
      · show look (e.wb ++ (e'.wb ++ σ.bx)) b = look (e'.wb ++ (e.wb ++ σ.bx)) b
        rw [look_append, look_append, look_append, look_append]
        by_cases q : b ∈ e'.wb.map (·.1)
        · rw [look_none (a4 b q).2]; simp
        · rw [look_none q]; simp
    exact ⟨hx, ⟨hy, cr_alike _ hsw g2⟩, ⟨fun t => (g3.sl t).trans ((fin_alike (A ++ B) hsw).sl t), fun t => (g3.bx t).trans ((fin_alike (A ++ B) hsw).bx t)⟩⟩
end
def directs (o : Oper) : List Nat := (o.after.toList.filter (fun e => Region.binds .any e)).map (·.on)
def maskOf (D : List Nat) (l : List Nat) : Nat := l.foldl (fun m k => m ||| (1 <<< k) ||| D.getD k 0) 0
theorem maskOf_mem (D : List Nat) (i : Nat) : ∀ (l : List Nat) (m : Nat), (l.foldl (fun m k => m ||| (1 <<< k) ||| D.getD k 0) m).testBit i = true → m.testBit i = true ∨ ∃ k ∈ l, i = k ∨ (D.getD k 0).testBit i = true
  | [], m, h => .inl h
  | k :: l, m, h => by
    rcases maskOf_mem D i l _ h with h | ⟨k', hk', h⟩
    · rw [Nat.testBit_or, Nat.testBit_or, Bool.or_eq_true, Bool.or_eq_true] at h
      rcases h with (h | h) | h
      · exact .inl h
      · rw [Nat.one_shiftLeft, Nat.testBit_two_pow] at h
        exact .inr ⟨k, by simp, .inl (by have : k = i := by simpa using h
                                         exact this.symm)⟩
      · exact .inr ⟨k, by simp, .inr h⟩
    · exact .inr ⟨k', by simp [hk'], h⟩
/-- The masks of those that come before each operation. -/
def masks : List Oper → List Nat → List Nat
  | [], D => D
  | o :: os, D => masks os (D ++ [maskOf D (directs o)])
def items : List Oper → List Eff → Nat → List It
  | o :: os, e :: es, i => (i, o, e) :: items os es (i + 1)
  | _, _, _ => []
def okItem (n : Nat) (D : List Nat) (x : It) : Bool :=
  (match x.2.1.dst with | some d => Nat.blt d n | none => true) && (directs x.2.1).all (fun k => Nat.blt k x.1) && Nat.beq (D.getD x.1 0) (maskOf D (directs x.2.1))
def okPairs (ops : Array Oper) (D : List Nat) : List It → Bool
  | [] => true
  | x :: R => R.all (fun y => (D.getD y.1 0).testBit x.1 || indep ops x.2 y.2) && okPairs ops D R
def okRegion (n : Nat) (ops : List Oper) (es : List Eff) : Bool :=
  Nat.beq ops.length es.length && (items ops es 0).all (okItem n (masks ops [])) && okPairs ops.toArray (masks ops []) (items ops es 0)
theorem mem_items {ops : List Oper} {es : List Eff} {k : Nat} {x : It} (h : x ∈ items ops es k) : k ≤ x.1 ∧ ops[x.1 - k]? = some x.2.1 := by
  induction ops generalizing es k with
  | nil => simp [items] at h
  | cons o os ih =>
    cases es with
    | nil => simp [items] at h
    | cons e es =>
      rcases List.mem_cons.1 h with rfl | h
      · simp
      · obtain ⟨a, b⟩ := ih h
        refine ⟨by omega, ?_⟩
        rw [show x.1 - k = (x.1 - (k + 1)) + 1 by omega]
        simpa using b
theorem items_mem {ops : List Oper} {es : List Eff} {k : Nat} (hl : ops.length = es.length) {i : Nat} (hi : i < ops.length) : ∃ o e, (k + i, o, e) ∈ items ops es k := by
  induction ops generalizing es k i with
  | nil => simp at hi
  | cons o os ih =>
    cases es with
    | nil => simp at hl
    | cons e es =>
      cases i with
      | zero => exact ⟨o, e, by simp [items]⟩
      | succ i =>
        obtain ⟨o', e', h⟩ := ih (k := k + 1) (by simpa using hl) (i := i) (by simpa using hi)
        exact ⟨o', e', by rw [show k + (i + 1) = k + 1 + i by omega]; exact List.mem_cons_of_mem _ h⟩
theorem items_sorted : ∀ (ops : List Oper) (es : List Eff) (k : Nat), (items ops es k).Pairwise (fun x y => x.1 < y.1)
  | [], _, _ => by simp [items]
  | _ :: _, [], _ => by simp [items]
  | o :: os, e :: es, k => by
    refine List.Pairwise.cons (fun y hy => ?_) (items_sorted os es (k + 1))
    have := (mem_items hy).1
    simp only; omega
theorem okPairs_spec {ops : Array Oper} {D : List Nat} : ∀ {R : List It}, okPairs ops D R = true → R.Pairwise (fun x y => (D.getD y.1 0).testBit x.1 = true ∨ indep ops x.2 y.2 = true)
  | [], _ => .nil
  | x :: R, h => by
    simp only [okPairs, Bool.and_eq_true] at h
    refine .cons (fun y hy => ?_) (okPairs_spec h.2)
    have := List.all_eq_true.1 h.1 y hy
    simpa using this
section
variable {P : Program} {En : Ev} {n : Nat} {ops : Array Oper} {Q : Exit → Act → World → Prop} {w0 : World} {h0 : GH} {c : Cx} {D : List Nat}
theorem any_ok : ∀ (fuel : Nat) (listed : Array Bool) (R : List It) (σ : St) (a : Act) (w : World), R.length ≤ fuel → listed.size = ops.size →
    (∀ x ∈ R, ops[x.1]? = some x.2.1 ∧ listed.getD x.1 true = false ∧ okItem n D x = true) →
    (∀ i, i < ops.size → listed.getD i true = false → ∃ o e, (i, o, e) ∈ R) →
    R.Pairwise (fun x y => x.1 < y.1) → R.Pairwise (fun x y => (D.getD y.1 0).testBit x.1 = true ∨ indep ops x.2 y.2 = true) →
    (∀ j, listed.getD j false = true → ∀ i, (D.getD j 0).testBit i = true → listed.getD i false = true) →
    CR P En n ops R σ → Gam En n w0 h0 c σ a w → (∀ a w, Gam En n w0 h0 c (fin R σ) a w → Q .normal a w) → wpAny P .any ops Q fuel listed a w := by
  intro fuel
  have hgd : ∀ (l : Array Bool) i, l.getD i true = false → i < l.size ∧ l.getD i false = false := fun l i h => by
    rcases Nat.lt_or_ge i l.size with hlt | hge
    · exact ⟨hlt, by simp [hlt] at h ⊢; exact h⟩
    · simp [Array.getElem?_eq_none hge] at h
  have hend : ∀ (listed : Array Bool) (R : List It), listed.size = ops.size → (∀ x ∈ R, ops[x.1]? = some x.2.1 ∧ listed.getD x.1 true = false ∧ okItem n D x = true) →
      (∀ i, i < ops.size → listed.getD i true = false → ∃ o e, (i, o, e) ∈ R) → R.Pairwise (fun x y => x.1 < y.1) → Region.ready .any ops listed = [] → R = [] := by
    intro listed R hsz hR hall hsort hr
    cases R with
    | nil => rfl
    | cons x R =>
      exfalso
      obtain ⟨h1, h2, h3⟩ := hR x (List.mem_cons_self ..)
      have : x.1 ∈ Region.ready .any ops listed := by
        refine mem_ready.2 ⟨h2, x.2.1, h1, fun e he hb => ?_⟩
        simp only [okItem, Bool.and_eq_true] at h3
        have hk := List.all_eq_true.1 h3.1.2 e.on (by
          unfold directs
          refine List.mem_map.2 ⟨e, List.mem_filter.2 ⟨by simpa using he, hb⟩, rfl⟩)
        have hk : e.on < x.1 := by have := Nat.le_of_ble_eq_true hk; omega
        have hx := (hgd _ _ h2).1
        cases hl : listed.getD e.on true with
        | true =>
          have : e.on < listed.size := by omega
          simp [this] at hl ⊢
          exact hl
        | false =>
          obtain ⟨o', e', hm⟩ := hall e.on (by omega) hl
          rcases List.mem_cons.1 hm with h | h
          · have := congrArg Prod.fst h; simp only at this; omega
          · have := List.rel_of_pairwise_cons hsort h; simp only at this; omega
      rw [hr] at this
      cases this
  induction fuel with
  | zero =>
    intro listed R σ a w hf hsz hR hall hsort hpair hclosed hcr hg hQ
    have : R = [] := List.length_eq_zero_iff.1 (by omega)
    subst this
    refine ⟨?_, hQ a w hg⟩
    cases hr : Region.ready .any ops listed with
    | nil => rfl
    | cons i l =>
      have : i ∈ Region.ready .any ops listed := by rw [hr]; simp
      obtain ⟨h1, o, h2, _⟩ := mem_ready.1 this
      obtain ⟨_, _, hm⟩ := hall i (Array.getElem?_eq_some_iff.1 h2).1 h1
      cases hm
  | succ fuel ih =>
    intro listed R σ a w hf hsz hR hall hsort hpair hclosed hcr hg hQ
    refine ⟨fun hr => ?_, fun i hi => ?_⟩
    · have := hend listed R hsz hR hall hsort hr
      subst this
      exact hQ a w hg
    · obtain ⟨h1, o, h2, h3⟩ := mem_ready.1 hi
      obtain ⟨o', e, hm⟩ := hall i (Array.getElem?_eq_some_iff.1 h2).1 h1
      obtain ⟨A, B, rfl⟩ := List.append_of_mem hm
      obtain ⟨k1, _, k3⟩ := hR _ hm
      simp only at k1
      rw [h2] at k1
      cases k1
      simp only [okItem, Bool.and_eq_true] at k3
      obtain ⟨⟨kd, kb⟩, km⟩ := k3
      have hdeps : ∀ j, (D.getD i 0).testBit j = true → listed.getD j false = true := fun j hj => by
        rw [Nat.eq_of_beq_eq_true km] at hj
        rcases maskOf_mem D j _ 0 hj with h | ⟨k, hk, h⟩
        · simp at h
        · obtain ⟨ed, hed, rfl⟩ := List.mem_map.1 hk
          obtain ⟨he1, he2⟩ := List.mem_filter.1 hed
          have hl := h3 ed (by simpa using he1) he2
          rcases h with rfl | h
          · exact hl
          · exact hclosed _ hl j h
      have hA : ∀ y ∈ A, indep ops y.2 (o, e) = true := fun y hy => by
        have hy' : y ∈ A ++ (i, o, e) :: B := List.mem_append_left _ hy
        rcases (List.pairwise_append.1 hpair).2.2 y hy (i, o, e) (List.mem_cons_self ..) with h | h
        · have q1 := hdeps _ h
          have q2 := (hgd _ _ (hR y hy').2.1).2
          rw [q1] at q2; cases q2
        · exact h
      obtain ⟨g1, g2, g3⟩ := bubble A σ hA hcr
      obtain ⟨h, β, hinv, hslots⟩ := hg
      have key := g1 σ.sl σ.bx (fun _ _ => rfl) (fun _ _ => rfl) (fun _ _ => rfl) w0 h0 c h β a w Q hinv hslots
        (wpAny P .any ops Q fuel (listed.setIfInBounds i true)) (fun a' w' hh => by
          obtain ⟨v, h', β', rfl, q1, q2, q3, q4, q5⟩ := hh
          have hG : Gam En n w0 h0 c (upd1 σ o e) (a.put o.dst v) w' := gam_step (fun d hd => by rw [hd] at kd; exact Nat.le_of_ble_eq_true (show Nat.ble (d + 1) n = true from kd)) hslots q1 q2 q3 q4 q5
          have hilt := (Array.getElem?_eq_some_iff.1 h2).1
          have hset : ∀ j d, j ≠ i → (listed.setIfInBounds i true).getD j d = listed.getD j d := fun j d hj => by
            simp [Array.getElem?_setIfInBounds_ne (Ne.symm hj)]
          have hset' : ∀ d, (listed.setIfInBounds i true).getD i d = true := fun d => by simp [hsz, hilt]
          have hsortAB := hsort
          have hne : ∀ x ∈ A ++ B, x.1 ≠ i := fun x hx => by
            rcases List.mem_append.1 hx with hx | hx
            · have := (List.pairwise_append.1 hsort).2.2 x hx (i, o, e) (List.mem_cons_self ..); simp only at this; omega
            · have := List.rel_of_pairwise_cons (List.pairwise_append.1 hsort).2.1 hx; simp only at this; omega
          have hsub : (A ++ B).Sublist (A ++ (i, o, e) :: B) := List.Sublist.append_left (List.sublist_cons_self _ _) _
          refine ih _ (A ++ B) (upd1 σ o e) _ _ (by simp at hf ⊢; omega) (by simpa using hsz) (fun x hx => ?_) (fun j hj hl => ?_) (hsort.sublist hsub) (hpair.sublist hsub) (fun j hj k hk => ?_) g2 hG (fun a w hG => hQ a w ?_)
          · obtain ⟨r1, r2, r3⟩ := hR x (hsub.subset hx)
            exact ⟨r1, by rw [hset _ _ (hne x hx)]; exact r2, r3⟩
          · have hji : j ≠ i := by rintro rfl; rw [hset'] at hl; cases hl
            rw [hset _ _ hji] at hl
            obtain ⟨o', e', hm'⟩ := hall j hj hl
            refine ⟨o', e', ?_⟩
            rcases List.mem_append.1 hm' with hm' | hm'
            · exact List.mem_append_left _ hm'
            · rcases List.mem_cons.1 hm' with hm' | hm'
              · exact absurd (congrArg Prod.fst hm') hji
              · exact List.mem_append_right _ hm'
          · by_cases hki : k = i
            · subst hki; exact hset' _
            · rw [hset _ _ hki]
              by_cases hji : j = i
              · subst hji; exact hdeps k hk
              · rw [hset _ _ hji] at hj; exact hclosed j hj k hk
          · exact hG.alike (fun t => (g3.sl t).symm) (fun t => (g3.bx t).symm))
      unfold wpOp
      rw [h2]
      exact key
theorem ops_ok : ∀ (R : List It) (σ : St) (a : Act) (w : World), (∀ x ∈ R, ops[x.1]? = some x.2.1 ∧ okItem n D x = true) →
    CR P En n ops R σ → Gam En n w0 h0 c σ a w → (∀ a w, Gam En n w0 h0 c (fin R σ) a w → Q .normal a w) → wpOps P ops Q (R.map (·.1)) a w
  | [], _, a, w, _, _, hg, hQ => hQ a w hg
  | (i, o, e) :: R, σ, a, w, hR, ⟨h1, h2⟩, hg, hQ => by
    obtain ⟨k1, k3⟩ := hR _ (List.mem_cons_self ..)
    simp only at k1
    simp only [okItem, Bool.and_eq_true] at k3
    obtain ⟨⟨kd, _⟩, _⟩ := k3
    obtain ⟨h, β, hinv, hslots⟩ := hg
    show wpOps P ops Q (i :: R.map (·.1)) a w
    rw [wpOps_cons]
    unfold wpOp
    rw [k1]
    refine h1 σ.sl σ.bx (fun _ _ => rfl) (fun _ _ => rfl) (fun _ _ => rfl) w0 h0 c h β a w Q hinv hslots _ (fun a' w' hh => ?_)
    obtain ⟨v, h', β', rfl, q1, q2, q3, q4, q5⟩ := hh
    exact ops_ok R _ _ _ (fun x hx => hR x (List.mem_cons_of_mem _ hx)) h2 (gam_step (fun d hd => by rw [hd] at kd; exact Nat.le_of_ble_eq_true (show Nat.ble (d + 1) n = true from kd)) hslots q1 q2 q3 q4 q5) hQ
end

/-! ### The walk, abstractly -/
inductive Chain (P : Program) (En : Ev) (n : Nat) (ops : Array Oper) : List Oper → St → List Eff → St → Prop
  | nil (σ : St) : Chain P En n ops [] σ [] σ
  | cons {o : Oper} {os : List Oper} {σ : St} {e : Eff} {es : List Eff} {τ : St} (h : LT P En n ops o σ.sl σ.bx e) (t : Chain P En n ops os (upd1 σ o e) es τ) : Chain P En n ops (o :: os) σ (e :: es) τ
theorem chain_cr {P : Program} {En : Ev} {n : Nat} {ops : Array Oper} {os : List Oper} {σ : St} {es : List Eff} {τ : St} (h : Chain P En n ops os σ es τ) : ∀ k, CR P En n ops (items os es k) σ ∧ fin (items os es k) σ = τ := by
  induction h with
  | nil σ => intro k; exact ⟨trivial, rfl⟩
  | cons h t ih => intro k; exact ⟨⟨h, (ih (k + 1)).1⟩, (ih (k + 1)).2⟩
def WpD (P : Program) (En : Ev) (n : Nat) (w0 : World) (h0 : GH) (c : Cx) (co : Code) (K : Exit → St → Prop) (σ : St) : Prop :=
  ∀ (Q : Exit → Act → World → Prop) (a : Act) (w : World), Gam En n w0 h0 c σ a w → (∀ e τ a' w', K e τ → Gam En n w0 h0 c τ a' w' → Q e a' w') → co.wp P Q a w
def kSeq (N : St → Prop) (K : Exit → St → Prop) : Exit → St → Prop
  | .normal, σ => N σ
  | .exit i, σ => K (.exit i) σ
  | .goto i, σ => K (.goto i) σ
  | .ret, σ => K .ret σ
  | .panic c, σ => K (.panic c) σ
  | .outgrown, σ => K .outgrown σ
def kBlock (id : Nat) (K : Exit → St → Prop) : Exit → St → Prop
  | .normal, σ => K .normal σ
  | .exit i, σ => cond (Nat.beq i id) (K .normal σ) (K (.exit i) σ)
  | .goto i, σ => K (.goto i) σ
  | .ret, σ => K .ret σ
  | .panic c, σ => K (.panic c) σ
  | .outgrown, σ => K .outgrown σ
section
variable {P : Program} {En : Ev} {n : Nat} {w0 : World} {h0 : GH} {c : Cx} {K : Exit → St → Prop} {σ : St}
theorem range_items : ∀ (ops : List Oper) (es : List Eff) (k : Nat), ops.length = es.length → (items ops es k).map (·.1) = List.range' k ops.length
  | [], [], k, _ => rfl
  | [], _ :: _, _, h => by simp at h
  | _ :: _, [], _, h => by simp at h
  | o :: os, e :: es, k, h => by
    show k :: (items os es (k + 1)).map (·.1) = _
    rw [range_items os es (k + 1) (by simpa using h), List.length_cons, List.range'_succ]
theorem WpD.region {id : Nat} {draw : Bool} {l : List Oper} {es : List Eff} {τ : St} (hm : P.follows .mixedOrders = true) (hc : Chain P En n l.toArray l σ es τ) (hok : okRegion n l es = true) (hk : K .normal τ) :
    WpD P En n w0 h0 c (.region id l.toArray draw) K σ := by
  intro Q a w hg hQ
  unfold okRegion at hok
  rw [Bool.and_eq_true, Bool.and_eq_true] at hok
  obtain ⟨⟨hl, hi⟩, hp⟩ := hok
  have hl := Nat.eq_of_beq_eq_true hl
  obtain ⟨hcr, hfin⟩ := chain_cr hc 0
  have hget : ∀ x ∈ items l es 0, l.toArray[x.1]? = some x.2.1 ∧ okItem n (masks l []) x = true := fun x hx => ⟨by have := (mem_items hx).2; simpa using this, List.all_eq_true.1 hi x hx⟩
  have hend : ∀ a w, Gam En n w0 h0 c (fin (items l es 0) σ) a w → Q .normal a w := fun a w h => hQ .normal τ a w hk (by rw [← hfin]; exact h)
  cases draw with
  | false =>
    refine wp_region ?_
    have := ops_ok (P := P) (ops := l.toArray) (Q := Q) (D := masks l []) (items l es 0) σ a w hget hcr hg hend
    rwa [range_items _ _ _ hl, ← List.range_eq_range'] at this
  | true =>
    refine wp_region_any hm ?_
    refine any_ok (D := masks l []) l.toArray.size _ (items l es 0) σ a _ ?_ (by simp) (fun x hx => ?_) (fun i hi' _ => ?_) (items_sorted _ _ _) (okPairs_spec hp) (fun j hj i hi => ?_) hcr ?_ hend
    · have := congrArg List.length (range_items l es 0 hl)
      simp at this ⊢
      omega
    · obtain ⟨q1, q2⟩ := hget x hx
      have hlt := (Array.getElem?_eq_some_iff.1 q1).1
      exact ⟨q1, by simp at hlt ⊢; simp [hlt], q2⟩
    · have := items_mem (k := 0) hl (i := i) (by simpa using hi')
      simpa using this
    · exfalso
      rw [Array.getD_eq_getD_getElem?] at hj
      rcases Nat.lt_or_ge j l.length with h | h
      · simp [h] at hj
      · simp [Nat.not_lt.2 h] at hj
    · obtain ⟨h, β, hi, hs⟩ := hg
      exact ⟨h, β, hi.drew, hs⟩
theorem WpD.seq {x y : Code} (h : WpD P En n w0 h0 c x (kSeq (WpD P En n w0 h0 c y K) K) σ) : WpD P En n w0 h0 c (.seq x y) K σ := by
  intro Q a w hg hQ
  refine wp_seq (h _ a w hg fun e τ a' w' hk hg' => ?_)
  cases e with
  | normal => exact hk Q a' w' hg' hQ
  | exit i => exact hQ _ τ a' w' hk hg'
  | goto i => exact hQ _ τ a' w' hk hg'
  | ret => exact hQ _ τ a' w' hk hg'
  | panic i => exact hQ _ τ a' w' hk hg'
  | outgrown => exact hQ _ τ a' w' hk hg'
theorem WpD.block {id : Nat} {co : Code} (h : WpD P En n w0 h0 c co (kBlock id K) σ) : WpD P En n w0 h0 c (.block id co) K σ := by
  intro Q a w hg hQ
  refine wp_block (h _ a w hg fun e τ a' w' hk hg' => ?_)
  cases e with
  | normal => exact hQ _ τ a' w' hk hg'
  | exit i =>
    show if i = id then Q .normal a' w' else Q (.exit i) a' w'
    have hk : cond (Nat.beq i id) (K .normal τ) (K (.exit i) τ) := hk
    by_cases e : i = id
    · subst e
      rw [if_pos rfl]
      rw [show Nat.beq i i = true by simp] at hk
      exact hQ _ τ a' w' hk hg'
    · rw [if_neg e]
      have : Nat.beq i id = false := by cases hh : Nat.beq i id; rfl; exact absurd (Nat.eq_of_beq_eq_true hh) e
      rw [this] at hk
      exact hQ _ τ a' w' hk hg'
  | goto i => exact hQ _ τ a' w' hk hg'
  | ret => exact hQ _ τ a' w' hk hg'
  | panic i => exact hQ _ τ a' w' hk hg'
  | outgrown => exact hQ _ τ a' w' hk hg'
theorem WpD.skip (h : K .normal σ) : WpD P En n w0 h0 c .skip K σ := fun _ a w hg hQ => wp_skip (hQ _ σ a w h hg)
theorem WpD.exit {id : Nat} (h : K (.exit id) σ) : WpD P En n w0 h0 c (.exit id) K σ := fun _ a w hg hQ => wp_exit (hQ _ σ a w h hg)
theorem WpD.ret (h : K .ret σ) : WpD P En n w0 h0 c .ret K σ := fun _ a w hg hQ => wp_ret (hQ _ σ a w h hg)
/-- What is known of an operand. -/
def osd (sl : Sl) : Operand → Option SD
  | .tmp t => look sl t
  | .const v => some (.one (ex v))
  | .func f => some (.one (ex (.func (.func f) #[] #[])))
  | .global g => some (.one (ex (.pointer (some ⟨g, 0, none⟩))))
theorem osd_ok {h : GH} {β : Nat → Nat} {sl : Sl} {bx : Bx} {a : Act} (hs : Slots n h β sl bx a) {x : Operand} {sd : SD} (hx : osd sl x = some sd) : sd.ok h β (a.eval x) ∧ sd.live bx := by
  cases x with
  | tmp t =>
    obtain ⟨v, hv, ho, hl⟩ := hs.slot t sd hx
    have : a.eval (.tmp t) = v := by simp [Act.eval, hv]
    rw [this]; exact ⟨ho, hl⟩
  | const v => cases hx; exact ⟨rfl, trivial⟩
  | func f => cases hx; exact ⟨rfl, trivial⟩
  | global g => cases hx; exact ⟨rfl, trivial⟩
theorem WpD.cond {cc : Operand} {x y : Code} {b : Bool} (hc : osd σ.sl cc = some (.one (ex (.bool b)))) (h1 : b = true → WpD P En n w0 h0 c x K σ) (h2 : b = false → WpD P En n w0 h0 c y K σ) : WpD P En n w0 h0 c (.cond cc x y) K σ := by
  intro Q a w hg hQ
  obtain ⟨h, β, hi, hs⟩ := hg
  have he : a.eval cc = .bool b := (osd_ok hs hc).1
  exact wp_cond_split he (fun e => h1 e Q a w ⟨h, β, hi, hs⟩ hQ) (fun e => h2 e Q a w ⟨h, β, hi, hs⟩ hQ)
/-- The one state says less than the other. -/
def Sub (σ τ : St) : Prop := ∀ En n w0 h0 c a w, Gam En n w0 h0 c σ a w → Gam En n w0 h0 c τ a w
theorem Sub.refl (σ : St) : Sub σ σ := fun _ _ _ _ _ _ _ h => h
theorem WpD.sub {co : Code} {τ : St} (hs : Sub σ τ) (h : WpD P En n w0 h0 c co K τ) : WpD P En n w0 h0 c co K σ := fun Q a w hg hQ => h Q a w (hs _ _ _ _ _ _ _ hg) hQ
theorem WpD.loop {α : Type} {co : Code} (I : α → St) (μ : α → Nat) (x0 : α) (hs : Sub σ (I x0)) (hr : ∀ x, WpD P En n w0 h0 c co (kSeq (fun τ => ∃ y, Sub τ (I y) ∧ μ y < μ x) K) (I x)) : WpD P En n w0 h0 c (.loop co) K σ := by
  intro Q a w hg hQ
  refine wp_loop_ghost (fun g a w => ∃ x, μ x = g ∧ Gam En n w0 h0 c (I x) a w) (μ x0) ⟨x0, rfl, hs _ _ _ _ _ _ _ hg⟩ ?_
  rintro g a w ⟨x, rfl, hx⟩
  refine hr x _ a w hx fun e τ a' w' hk hg' => ?_
  cases e with
  | normal =>
    obtain ⟨y, hy, hlt⟩ := hk
    exact ⟨μ y, hlt, y, rfl, hy _ _ _ _ _ _ _ hg'⟩
  | exit i => exact hQ _ τ a' w' hk hg'
  | goto i => exact hQ _ τ a' w' hk hg'
  | ret => exact hQ _ τ a' w' hk hg'
  | panic i => exact hQ _ τ a' w' hk hg'
  | outgrown => exact hQ _ τ a' w' hk hg'
end
def SLe : SD → SD → Prop
  | .one p, .one q => PLe p q
  | .ptr b o, .ptr b' o' => b = b' ∧ o = o'
  | .own b o l k, .own b' o' l' k' => b = b' ∧ o = o' ∧ l = l' ∧ k = k'
  | _, _ => False
def PsLe : List Pd → List Pd → Prop
  | [], [] => True
  | p :: ps, q :: qs => PLe p q ∧ PsLe ps qs
  | _, _ => False
theorem PsLe.refl : ∀ ps, PsLe ps ps
  | [] => trivial
  | p :: ps => ⟨PLe.refl p, PsLe.refl ps⟩
theorem PsLe.all {h : GH} : ∀ {ps qs : List Pd} {vs : List Value}, PsLe ps qs → All2 h ps vs → All2 h qs vs
  | [], [], [], _, _ => trivial
  | _ :: _, _ :: _, _ :: _, ⟨a, b⟩, ⟨x, y, z⟩ => ⟨a _ _ x, y, PsLe.all b z⟩
  | [], [], _ :: _, _, h => h.elim
  | _ :: _, _ :: _, [], _, h => h.elim
  | [], _ :: _, _, h, _ => h.elim
  | _ :: _, [], _, h, _ => h.elim
def subSl (s : Sl) (bx : Bx) : Sl → Prop
  | [] => True
  | (t, sd) :: l => (∃ sd', look s t = some sd' ∧ SLe sd' sd) ∧ sd.live bx ∧ subSl s bx l
def subBx (s : Bx) : Bx → Prop
  | [] => True
  | (t, ps) :: l => (∃ ps', look s t = some ps' ∧ PsLe ps' ps) ∧ subBx s l
theorem subSl_get {s : Sl} {bx : Bx} : ∀ {l : Sl}, subSl s bx l → ∀ {t : Nat} {sd : SD}, look l t = some sd → (∃ sd', look s t = some sd' ∧ SLe sd' sd) ∧ sd.live bx
  | [], _, _, _, h => by cases h
  | (k, x) :: l, ⟨h1, h2, h3⟩, t, sd, h => by
    rw [look_cons] at h
    split at h
    · rename_i e; subst e; cases h; exact ⟨h1, h2⟩
    · exact subSl_get h3 h
theorem subBx_get {s : Bx} : ∀ {l : Bx}, subBx s l → ∀ {t : Nat} {ps : List Pd}, look l t = some ps → ∃ ps', look s t = some ps' ∧ PsLe ps' ps
  | [], _, _, _, h => by cases h
  | (k, x) :: l, ⟨h1, h3⟩, t, sd, h => by
    rw [look_cons] at h
    split at h
    · rename_i e; subst e; cases h; exact h1
    · exact subBx_get h3 h
theorem Sub.mk {σ τ : St} (h1 : subSl σ.sl τ.bx τ.sl) (h2 : subBx σ.bx τ.bx) : Sub σ τ := by
  rintro En n w0 h0 c a w ⟨h, β, hi, hs⟩
  refine ⟨h, β, ⟨hi.env, hi.holds, hi.le0, hi.fresh, hi.below, hi.dis, hi.pin, fun i ps hp => ?_, fun i j hi' hj' => hi.inj i j ?_ ?_⟩, hs.defers, hs.size, fun t sd ht => ?_⟩
  · obtain ⟨ps', g1, g2⟩ := subBx_get h2 hp
    obtain ⟨q1, q2, vs, rs, T, q3, q4⟩ := hi.box i ps' g1
    exact ⟨q1, q2, vs, rs, T, q3, g2.all q4⟩
  · obtain ⟨ps, hp⟩ := Option.ne_none_iff_exists'.1 hi'
    obtain ⟨ps', g1, _⟩ := subBx_get h2 hp
    rw [g1]; simp
  · obtain ⟨ps, hp⟩ := Option.ne_none_iff_exists'.1 hj'
    obtain ⟨ps', g1, _⟩ := subBx_get h2 hp
    rw [g1]; simp
  · obtain ⟨⟨sd', g1, g2⟩, g3⟩ := subSl_get h1 ht
    obtain ⟨v, q1, q2, _⟩ := hs.slot t sd' g1
    refine ⟨v, q1, ?_, g3⟩
    cases sd with
    | one q => cases sd' with
      | one p => exact g2 _ _ q2
      | ptr b o => exact g2.elim
      | own b o l k => exact g2.elim
    | ptr b o => cases sd' with
      | one p => exact g2.elim
      | ptr b' o' => obtain ⟨rfl, rfl⟩ := g2; exact q2
      | own b o l k => exact g2.elim
    | own b o l k => cases sd' with
      | one p => exact g2.elim
      | ptr b' o' => exact g2.elim
      | own b' o' l' k' => obtain ⟨rfl, rfl, rfl, rfl⟩ := g2; exact q2

/-! ### A function -/
def FnPost (h : GH) (w : World) (r : Pd) (e : Ending) (w' : World) : Prop :=
  ∃ v h', e = .returned v ∧ Le h h' ∧ Holds h' w' ∧ (∀ b o u, h' b o = some u → h b o = none → w.heap.size ≤ b) ∧ Below w.heap.size w w' ∧ r.p h' v
/-- A function that, given such values, hands back such a value, and leaves what there was as it is. -/
def Fn (P : Program) (En : Ev) (f : FuncId) (ps : List Pd) (r : Pd) : Prop :=
  ∀ (h : GH) (w : World) (vs : List Value), En.e w → Holds h w → AllV h ps vs → Calls P f vs.toArray w (FnPost h w r)
def argSl : List Pd → Nat → Sl
  | [], _ => []
  | p :: ps, k => (k, .one p) :: argSl ps (k + 1)
theorem argSl_get {h : GH} : ∀ {ps : List Pd} {vs : List Value} {k t : Nat} {sd : SD}, AllV h ps vs → look (argSl ps k) t = some sd → ∃ p v, sd = .one p ∧ k ≤ t ∧ vs[t - k]? = some v ∧ p.p h v
  | [], _, _, _, _, _, h => by cases h
  | p :: ps, v :: vs, k, t, sd, ⟨a, b⟩, h => by
    unfold argSl at h
    rw [look_cons] at h
    split at h
    · rename_i e; subst e; cases h; exact ⟨p, v, rfl, Nat.le_refl _, by simp, a⟩
    · obtain ⟨q, u, rfl, h1, h2, h3⟩ := argSl_get b h
      refine ⟨q, u, rfl, by omega, ?_, h3⟩
      rw [show t - k = (t - (k + 1)) + 1 by omega]
      simpa using h2
  | _ :: _, [], _, _, _, h, _ => h.elim
/-- What the results say. -/
def RetOK (P : Program) (fn : Func) (σ : St) (r : Pd) : Prop :=
  ∀ En n w0 h0 c h β a w, Inv En w0 h0 c h β σ.bx w → Slots n h β σ.sl σ.bx a → ∃ v, (results fn a.tmps).run P w = .ok v w ∧ r.p h v
def kFn (P : Program) (fn : Func) (r : Pd) : Exit → St → Prop
  | .normal, σ => RetOK P fn σ r
  | .ret, σ => RetOK P fn σ r
  | .exit _, _ => False
  | .goto _, _ => False
  | .panic _, _ => False
  | .outgrown, _ => False
theorem fn_of_body {P : Program} {En : Ev} {f : FuncId} {fn : Func} {co : Code} {n : Nat} {ps : List Pd} {r : Pd} (hf : P.funcs[f]? = some fn) (hb : fn.body = some co) (hn : fn.ntmps = n) (hl : Nat.ble ps.length n = true)
    (H : ∀ w0 h0, WpD P En n w0 h0 c0 co (kFn P fn r) ⟨argSl ps 0, []⟩) : Fn P En f ps r := by
  subst hn
  intro h w vs hen hh hv
  refine calls_of_wp hf hb ?_
  have hle : vs.length ≤ fn.ntmps := by rw [← hv.length]; exact Nat.le_of_ble_eq_true hl
  refine H w h _ _ w ⟨h, fun _ => 0, ⟨hen, hh, Le.refl _, fun b o v e e0 => (by rw [e] at e0; cases e0), BelowM.refl _ _, fun _ h => h.elim, fun _ _ => rfl, fun i ps hp => (by cases hp), fun i j hi => (absurd rfl hi)⟩, rfl, ?_, fun t sd ht => ?_⟩ ?_
  · simp; omega
  · obtain ⟨p, v, rfl, _, h2, h3⟩ := argSl_get hv ht
    have h2' : vs[t]? = some v := by simpa using h2
    have hlt := (List.getElem?_eq_some_iff.1 h2').1
    refine ⟨v, ?_, h3, trivial⟩
    rw [Array.getElem?_append_left (by simpa using hlt)]
    simpa using h2'
  · intro e τ a' w' hk hg
    have fin : RetOK P fn τ r → a'.defers = [] ∧ ∃ v, (results fn a'.tmps).run P w' = .ok v w' ∧ FnPost h w r (.returned v) w' := fun hR => by
      obtain ⟨h', β, hi, hs⟩ := hg
      obtain ⟨v, h1, h2⟩ := hR _ _ _ _ _ _ _ _ _ hi hs
      exact ⟨hs.defers, v, h1, v, h', rfl, hi.le0, hi.holds, hi.fresh, hi.below.toBelow, h2⟩
    cases e with
    | normal => exact fin hk
    | ret => exact fin hk
    | exit i => exact hk.elim
    | goto i => exact hk.elim
    | panic i => exact hk.elim
    | outgrown => exact hk.elim
/-- A weaker word. -/
theorem Fn.imp {P : Program} {En : Ev} {f : FuncId} {ps : List Pd} {r r' : Pd} (h : Fn P En f ps r) (hr : PLe r r') : Fn P En f ps r' := fun hh w vs he ho ha =>
  (h hh w vs he ho ha).mono fun _ _ ⟨v, h', h1, h2, h3, h4, h5, h6⟩ => ⟨v, h', h1, h2, h3, h4, h5, hr _ _ h6⟩
def PsV : List Pd → List Pd → Prop
  | [], [] => True
  | p :: ps, q :: qs => PLe p q ∧ PsV ps qs
  | _, _ => False
theorem PsV.all {h : GH} : ∀ {ps qs : List Pd} {vs : List Value}, PsV ps qs → AllV h ps vs → AllV h qs vs
  | [], [], [], _, _ => trivial
  | _ :: _, _ :: _, _ :: _, ⟨a, b⟩, ⟨x, z⟩ => ⟨a _ _ x, PsV.all b z⟩
  | [], [], _ :: _, _, h => h.elim
  | _ :: _, _ :: _, [], _, h => h.elim
  | [], _ :: _, _, h, _ => h.elim
  | _ :: _, [], _, h, _ => h.elim
theorem Fn.arg {P : Program} {En : Ev} {f : FuncId} {ps qs : List Pd} {r : Pd} (h : Fn P En f qs r) (hp : PsV ps qs) : Fn P En f ps r := fun hh w vs he ho ha => h hh w vs he ho (hp.all ha)
end Go.Proofs.YtnhbdldchoepfaaDoor

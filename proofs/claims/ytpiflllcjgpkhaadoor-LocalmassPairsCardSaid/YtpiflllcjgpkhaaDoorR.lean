
import Derived.Test.YtpiflllcjgpkhaaDoorMem
import Derived.Test.YtpiflllcjgpkhaaDoorProg
import Derived.Test.YtpiflllcjgpkhaaDoorL
import Derived.Deep.QuietTactic
import Derived.BigQuiet
import Derived.Deep.RegionHeld3
import Derived.Laws.BitsAllLaws
set_option maxRecDepth 3000
namespace Go.Proofs.YtpiflllcjgpkhaaDoor
open Go.RowKit Limb

theorem ret_int' {k : IntKind} {a b : Int} (h : a = b) : Ending.returned (.int k a) = .returned (.int k b) := by rw [h]
theorem ret_bool' {a b : Bool} (h : a = b) : Ending.returned (.bool a) = .returned (.bool b) := by rw [h]
def limbCells (l : List Nat) : List Value := l.map fun x => .int .u32 (x : Nat)
theorem limbCells_length (l : List Nat) : (limbCells l).length = l.length := by simp [limbCells]
theorem limbCells_get {l : List Nat} {i x : Nat} (h : l[i]? = some x) : (limbCells l)[i]? = some (.int .u32 (x : Nat)) := by simp [limbCells, h]
theorem limbCells_append (a b : List Nat) : limbCells (a ++ b) = limbCells a ++ limbCells b := by simp [limbCells]
theorem limbCells_one (l : List Nat) : ∀ u ∈ limbCells l, u.oneCell' = true := by
  intro u hu
  obtain ⟨x, _, rfl⟩ := List.mem_map.1 hu
  rfl
/-- A slice of limbs. -/
def Mg (w : World) (v : Value) (l : List Nat) : Prop := Rd w v l.length (limbCells l) ∧ Lm l
theorem Mg.below {w w' : World} {v : Value} {l : List Nat} (h : Mg w v l) (hb : Below w.heap.size w w') : Mg w' v l := ⟨h.1.below hb, h.2⟩
/-- The slice written out: nil, or an address with its cells. -/
theorem Mg.form {w : World} {v : Value} {l : List Nat} (h : Mg w v l) : ∃ a cap, v = .slice a l.length cap ∧ l.length ≤ cap ∧ cap ≤ maxLen ∧ (a = none → cap = 0) ∧
    (0 < l.length → ∃ b off, a = some ⟨b, off, none⟩ ∧ b < w.heap.size ∧ ∀ j x, l[j]? = some x → w.cell? ⟨b, off + j, none⟩ = some (.int .u32 (x : Nat))) := by
  obtain ⟨⟨a, cap, rfl, h1, ⟨h2, h2'⟩, h3⟩, _⟩ := h
  refine ⟨a, cap, rfl, h1, h2, h2', fun hl => ?_⟩
  obtain ⟨b, off, rfl, hb, hc⟩ := h3 (fun e => by have := congrArg List.length e; rw [limbCells_length] at this; simp at this; simp [this] at hl)
  exact ⟨b, off, rfl, hb, fun j x hj => hc j _ (limbCells_get hj)⟩
theorem Mg.cell {w : World} {b off n cap : Nat} {l : List Nat} (h : Mg w (.slice (some ⟨b, off, none⟩) n cap) l) {j x : Nat} (hx : l[j]? = some x) : w.cell? ⟨b, off + j, none⟩ = some (.int .u32 (x : Nat)) := by
  obtain ⟨a, cap', hv, _, _, _, hr⟩ := h.form
  injection hv with e1 e2 e3
  subst e1
  obtain ⟨b', off', hv', _, hc⟩ := hr (by have := (List.getElem?_eq_some_iff.1 hx).1; omega)
  injection hv' with hv'
  injection hv' with e4 e5
  subst e4 e5
  exact hc j x hx
theorem Mg.of_owns {w : World} {base e : Nat} {v : Value} {l : List Nat} (h : w.ownsRow base e 1 v l.length (limbCells l)) (hl : Lm l) : Mg w v l := ⟨Rd.of_owns h, hl⟩
theorem info32 : (Tryd.prog.info? 84).map (fun i => (i.zero, i.size, i.bytes)) = some (some (.int .u32 0), 1, 4) := by kernel_rfl
/-- A new slice of limbs. -/
def NewMg (w : World) (l : List Nat) (e : Ending) (w' : World) : Prop :=
  ∃ v, e = .returned v ∧ w'.ownsRow w.heap.size 84 1 v l.length (limbCells l) ∧ Below w.heap.size w w'

theorem app_nil (w : World) : (Builtin.append_ #[23, 23] 23 #[.slice none 0 0, .slice none 0 0]).run Tryd.prog w = .ok (.slice none 0 0) w := by kernel_rfl
/-- Where a slice lies. -/
def Fr (base : Nat) (a : Option Addr) : Prop := ∀ ad, a = some ad → base ≤ ad.block
theorem Fr.mono {b b' : Nat} {a : Option Addr} (h : Fr b a) (hb : b' ≤ b) : Fr b' a := fun ad e => Nat.le_trans hb (h ad e)
theorem Fr.of_owns {w : World} {base e n cap : Nat} {a : Option Addr} {xs : List Value} (h : w.ownsRow base e 1 (.slice a n cap) n xs) : Fr base a := by
  intro ad e
  subst e
  exact (h.lt ad.block rfl).1
theorem Mg.store {w : World} {a : Option Addr} {n cap base : Nat} {l : List Nat} (h : Mg w (.slice a n cap) l) (hf : Fr base a) {p : Addr} (hp : p.block < base) (u : Value) : Mg (w.setCell p u) (.slice a n cap) l := by
  obtain ⟨⟨a', cap', h0, h1, h2, h3⟩, hl⟩ := h
  injection h0 with e1 e2 e3
  subst e1 e3
  refine ⟨⟨a, cap, by rw [e2], h1, h2, fun hx => ?_⟩, hl⟩
  obtain ⟨b, off, rfl, hb, hc⟩ := h3 hx
  have hne : b ≠ p.block := by have := hf _ rfl; simp only at this; omega
  refine ⟨b, off, rfl, by simpa [World.setCell] using hb, fun j u' hj => ?_⟩
  rw [World.cell?_of_block (w := w) (a := ⟨b, off + j, none⟩) (Below.heap_setCell _ _ _ _ hne)]
  exact hc j u' hj
/-- Old cells and marks read as before. -/
theorem bcell {W w1 : World} (hb : Below W.heap.size W w1) : (∀ b o, b < W.heap.size → w1.cell? ⟨b, o, none⟩ = W.cell? ⟨b, o, none⟩) ∧ (∀ b o, b < W.heap.size → w1.frozen? ⟨b, o, none⟩ = W.frozen? ⟨b, o, none⟩) :=
  ⟨fun b o h => hb.cell (p := ⟨b, o, none⟩) h, fun b o h => hb.frozen (p := ⟨b, o, none⟩) h⟩
theorem below_call {B : Nat} {w W w1 : World} (h : Below B w W) (hb : Below W.heap.size W w1) (hB : B ≤ W.heap.size) : Below B w w1 := h.trans (hb.mono hB)

/-- An Int (its sign, its slice) that denotes z, with at most k limbs. -/
def IsZ (w : World) (s : Bool) (a : Option Addr) (n cap : Nat) (z : Int) (k : Nat) : Prop :=
  ∃ l, l.length = n ∧ Mg w (.slice a n cap) l ∧ n ≤ k ∧ z = if s then -(val l : Int) else (val l : Int)
/-- The canonical Int that denotes z. -/
def Can (w : World) (s : Bool) (a : Option Addr) (n cap : Nat) (z : Int) : Prop := s = decide (z < 0) ∧ n = (digs z.natAbs).length ∧ Mg w (.slice a n cap) (digs z.natAbs)
/-- The number of limbs. -/
def sz (z : Int) : Nat := (digs z.natAbs).length
theorem Can.isZ {w : World} {s : Bool} {a : Option Addr} {n cap : Nat} {z : Int} (h : Can w s a n cap z) : IsZ w s a n cap z (sz z) := by
  obtain ⟨rfl, h2, h3⟩ := h
  refine ⟨_, h2.symm, h3, by rw [h2]; exact Nat.le_refl _, ?_⟩
  rw [val_digs]
  by_cases h : z < 0
  · rw [decide_eq_true h]; simp; omega
  · rw [decide_eq_false h]; simp; omega
theorem IsZ.below {w w' : World} {s : Bool} {a : Option Addr} {n cap : Nat} {z : Int} {k : Nat} (h : IsZ w s a n cap z k) (hb : Below w.heap.size w w') : IsZ w' s a n cap z k := by
  obtain ⟨l, h1, h2, h3, h4⟩ := h
  exact ⟨l, h1, h2.below hb, h3, h4⟩
theorem IsZ.mono {w : World} {s : Bool} {a : Option Addr} {n cap : Nat} {z : Int} {k m : Nat} (h : IsZ w s a n cap z k) (hm : k ≤ m) : IsZ w s a n cap z m := by
  obtain ⟨l, h1, h2, h3, h4⟩ := h
  exact ⟨l, h1, h2, Nat.le_trans h3 hm, h4⟩
theorem Can.below {w w' : World} {s : Bool} {a : Option Addr} {n cap : Nat} {z : Int} (h : Can w s a n cap z) (hb : Below w.heap.size w w') : Can w' s a n cap z := ⟨h.1, h.2.1, h.2.2.below hb⟩
theorem Can.store {w : World} {s : Bool} {a : Option Addr} {n cap base : Nat} {z : Int} (h : Can w s a n cap z) (hf : Fr base a) {p : Addr} (hp : p.block < base) (u : Value) : Can (w.setCell p u) s a n cap z := ⟨h.1, h.2.1, h.2.2.store hf hp u⟩
/-- A call that hands back the canonical Int of z, in new memory. -/
def ZPost (z : Int) (w : World) (e : Ending) (w' : World) : Prop := ∃ s a n cap, e = .returned (.agg #[.bool s, .slice a n cap]) ∧ Can w' s a n cap z ∧ Fr w.heap.size a ∧ Below w.heap.size w w'
theorem signed_neg {neg : Bool} {n : Nat} {z : Int} (h : z = if neg then -(n : Int) else (n : Int)) : z.natAbs = n ∧ decide (z < 0) = (neg && decide (0 < n)) := by
  cases neg
  · simp only [Bool.false_eq_true, if_false] at h
    refine ⟨by omega, ?_⟩
    rw [decide_eq_false (by omega)]; rfl
  · simp only [if_true] at h
    refine ⟨by omega, ?_⟩
    rcases Nat.eq_zero_or_pos n with h0 | h0
    · rw [decide_eq_false (by omega), decide_eq_false (by omega)]; rfl
    · rw [decide_eq_true (by omega), decide_eq_true h0]; rfl
theorem digs_pos (n : Nat) : decide (0 < (digs n).length) = decide (0 < n) := by
  rcases Nat.eq_zero_or_pos n with h | h
  · subst h; rfl
  · rw [decide_eq_true h, decide_eq_true]
    rw [digs_step (by omega)]; simp
/-- The end of a function whose result lies in block R. -/
theorem zfin {w w1 : World} {s : Bool} {a : Option Addr} {n cap base R : Nat} {z : Int} (h1 : Below w.heap.size w w1) (hR : w.heap.size ≤ R) (hlt : R < base) (hc : Can w1 s a n cap z) (hf : Fr base a) (x y : Value) :
    ZPost z w (.returned (.agg #[.bool s, .slice a n cap])) ((w1.setCell ⟨R, 0, none⟩ x).setCell ⟨R, 1, none⟩ y) :=
  ⟨s, a, n, cap, rfl, (hc.store hf (p := ⟨R, 0, none⟩) hlt x).store hf (p := ⟨R, 1, none⟩) hlt y, hf.mono (by omega), (h1.setCell (p := ⟨R, 0, none⟩) hR x).setCell (p := ⟨R, 1, none⟩) hR y⟩

theorem heap_store2 {w : World} {R : Nat} {a b : Value} {t : TypeId} {fr : Nat × Nat} (h : w.heap[R]? = some (.cells #[a, b] t fr)) (x y : Value) :
    ((w.setCell ⟨R, 0, none⟩ x).setCell ⟨R, 1, none⟩ y).heap[R]? = some (.cells #[x, y] t fr) := by
  simp [World.setCell, Array.getElem?_modify, h]
/-- The result that lies in block R. -/
theorem zres {fn : Func} {p : Tmp} {w : World} {R : Nat} {x y : Value} {t : TypeId} {fr : Nat × Nat} {tmps : Array Value} (h : fn.results = #[.cell p 25]) (hp : tmps.getD p undef = .pointer (some ⟨R, 0, none⟩)) (hg : w.heap[R]? = some (.cells #[x, y] t fr)) :
    (results fn tmps).run Tryd.prog w = .ok (.agg #[x, y]) w :=
  results_cell_row h tmps w R t #[x, y] fr _ hp hg Tryd.underlying25 rfl (by kernel_rfl)

theorem mg_new {W : World} {R c : Nat} {T : TypeId} (l : List Nat) (hR : R = W.heap.size) (hl : Lm l) (hc : l.length ≤ c) (hm : c ≤ maxLen) : Mg (W.alloc (.cells (limbCells l).toArray T)) (.slice (some ⟨R, 0, none⟩) l.length c) l := by
  refine ⟨⟨_, c, rfl, hc, ⟨hm, fun h => by cases h⟩, fun _ => ⟨R, 0, rfl, by simp [hR], fun j u hj => ?_⟩⟩, hl⟩
  have := cells_new W R hR (limbCells l) T j u hj
  rwa [addr_add] at this
theorem val_two (u : Nat) : val [u % B, u / B] = u := by
  simp only [val, Nat.mul_zero, Nat.add_zero]; exact Nat.mod_add_div u B
theorem lm_two {u : Nat} (hu : u < 18446744073709551616) : Lm [u % B, u / B] := by
  have h1 : u % B < B := Nat.mod_lt _ B_pos
  have h2 : u / B < B := by rw [B_def]; omega
  exact Lm.cons h1 (Lm.cons h2 Lm.nil)

theorem u64_neg {n : Int} (h1 : -9223372036854775808 ≤ n) (h2 : n < 0) : IntKind.u64.wrap (-(IntKind.u64.wrap n)) = -n := by
  rw [IntKind.wrap_u64, IntKind.wrap_u64]; omega
theorem size_setCell (w : World) (p : Addr) (u : Value) : (w.setCell p u).heap.size = w.heap.size := by simp [World.setCell]
theorem cell_store2 {w : World} {R : Nat} {a b : Value} (c0 : w.cell? ⟨R, 0, none⟩ = some a) (c1 : w.cell? ⟨R, 1, none⟩ = some b) (x y : Value) :
    ((w.setCell ⟨R, 0, none⟩ x).setCell ⟨R, 1, none⟩ y).cell? ⟨R, 0, none⟩ = some x ∧ ((w.setCell ⟨R, 0, none⟩ x).setCell ⟨R, 1, none⟩ y).cell? ⟨R, 1, none⟩ = some y := by
  unfold World.cell? at *
  simp only [World.setCell, Array.getElem?_modify]
  cases hh : w.heap[R]? with
  | none => simp [hh] at c0
  | some o =>
    cases o with
    | cells cs t fr =>
      simp only [hh] at c0 c1
      simp at c0 c1
      have h0 := (Array.getElem?_eq_some_iff.1 c0).1
      have h1 := (Array.getElem?_eq_some_iff.1 c1).1
      simp [h0, h1]
    | _ => simp [hh] at c0
/-- The result that lies in block R, behind the store. -/
theorem zres2 {fn : Func} {p : Tmp} {w : World} {R : Nat} {x y a b : Value} {tmps : Array Value} (h : fn.results = #[.cell p 25]) (hp : tmps.getD p undef = .pointer (some ⟨R, 0, none⟩)) (c0 : w.cell? ⟨R, 0, none⟩ = some a) (c1 : w.cell? ⟨R, 1, none⟩ = some b) :
    (results fn tmps).run Tryd.prog ((w.setCell ⟨R, 0, none⟩ x).setCell ⟨R, 1, none⟩ y) = .ok (.agg #[x, y]) ((w.setCell ⟨R, 0, none⟩ x).setCell ⟨R, 1, none⟩ y) := by
  obtain ⟨d0, d1⟩ := cell_store2 c0 c1 x y
  have hp' : tmps[p]?.getD undef = .pointer (some ⟨R, 0, none⟩) := by simpa using hp
  simp [results, h, hp', asAddr, go_sem, d0, d1]
end Go.Proofs.YtpiflllcjgpkhaaDoor

namespace Go.Proofs.YtpiflllcjgpkhaaDoor
open Go.RowKit Limb

end Go.Proofs.YtpiflllcjgpkhaaDoor

namespace Go.Proofs.YtpiflllcjgpkhaaDoor
open Go.RowKit Limb
/-- A new slice of limbs of value N, at most K long. -/
def RawPost (N K : Nat) (w : World) (e : Ending) (w' : World) : Prop :=
  ∃ L v, e = .returned v ∧ w'.ownsRow w.heap.size 84 1 v L.length (limbCells L) ∧ Lm L ∧ val L = N ∧ L.length ≤ K ∧ Below w.heap.size w w'
theorem limbs_snoc {w : World} {base : Nat} {v : Value} {O : List Nat} {X : Int} {d : Nat} (h : w.ownsRow base 84 1 v (O.length + 1) (limbCells O ++ [.int .u32 X])) (hX : X = (d : Int)) : w.ownsRow base 84 1 v (O ++ [d]).length (limbCells (O ++ [d])) := by
  rw [limbCells_append, List.length_append]
  subst hX
  exact h
theorem one_u32 (X : Int) : ∀ u ∈ ([.int .u32 X] : List Value), u.oneCell' = true := by
  intro u hu
  rw [List.mem_singleton] at hu
  subst hu; rfl
theorem le_alloc {w : World} {a : Nat} (h : a ≤ w.heap.size) (o : Obj) : a ≤ (w.alloc o).heap.size := by simp; omega
end Go.Proofs.YtpiflllcjgpkhaaDoor

namespace Go.Proofs.YtpiflllcjgpkhaaDoor.Limb
/-! ### Doubling -/
def DblInv (l : List Nat) (c0 : Nat) (i : Nat) (O : List Nat) (c : Nat) : Prop := O.length = i ∧ Lm O ∧ c ≤ 1 ∧ val O + B ^ i * c = 2 * val (l.take i) + c0
theorem DblInv.start (l : List Nat) {c0 : Nat} (h : c0 ≤ 1) : DblInv l c0 0 [] c0 := ⟨rfl, Lm.nil, h, by simp [val]⟩
theorem DblInv.step {l : List Nat} {c0 i : Nat} {O : List Nat} {c x : Nat} (hl : Lm l) (h : DblInv l c0 i O c) (hx : l[i]? = some x) :
    DblInv l c0 (i + 1) (O ++ [(2 * x) % B + c]) (x / 2147483648) := by
  obtain ⟨a1, a2, a3, a4⟩ := h
  have b1 := hl.get hx
  refine ⟨by simp [a1], lm_snoc a2 (by rw [B_def] at *; omega), by rw [B_def] at b1; omega, ?_⟩
  rw [val_snoc, val_take_succ, a1, hx, Option.getD_some]
  have : B ^ i * ((2 * x) % B + c) + B ^ (i + 1) * (x / 2147483648) = B ^ i * (2 * x + c) := by
    rw [Nat.pow_succ, Nat.mul_assoc, ← Nat.mul_add]
    congr 1
    rw [B_def] at *; omega
  rw [Nat.add_assoc, this, Nat.mul_add, Nat.mul_add, Nat.mul_left_comm (B ^ i) 2 x]
  omega
theorem DblInv.done {l : List Nat} {c0 i : Nat} {O : List Nat} {c : Nat} (h : DblInv l c0 i O c) (h1 : l.length ≤ i) : Lm (O ++ [c]) ∧ val (O ++ [c]) = 2 * val l + c0 := by
  obtain ⟨a1, a2, a3, a4⟩ := h
  refine ⟨lm_snoc a2 (by rw [B_def]; omega), ?_⟩
  rw [val_snoc, a1, a4, List.take_of_length_le h1]
end Go.Proofs.YtpiflllcjgpkhaaDoor.Limb
namespace Go.Proofs.YtpiflllcjgpkhaaDoor
open Go.RowKit Limb
theorem or_dbl (x c : Nat) (hc : c ≤ 1) : bits .or .u32 ((x : Int) * 2 % 4294967296) (c : Int) = (((2 * x) % B + c : Nat) : Int) := by
  rw [u32_or _ _ (by omega) (by omega) (by omega) (by omega)]
  have e1 : ((x : Int) * 2 % 4294967296).toNat = (2 * x) % B := by rw [B_def]; omega
  rw [e1, Int.toNat_natCast, nat_join 1 _ _ (by rw [B_def]; omega) (by omega)]
theorem or_low (u x : Nat) (hu : u < 4294967296) (hx : x < 4294967296) : bits .or .u64 (u : Int) ((x : Int) * 4294967296) = ((u + B * x : Nat) : Int) := by
  rw [u64_or _ _ (by omega) (by omega) (by omega) (by omega)]
  have e1 : ((x : Int) * 4294967296).toNat = B * x := by rw [B_def]; omega
  rw [e1, Int.toNat_natCast, Nat.or_comm, nat_join 32 _ _ (by rw [B_def]; omega) (by omega), Nat.add_comm]
theorem or_zero (x : Nat) (hx : x < 4294967296) : bits .or .u64 0 (x : Int) = (x : Int) := by
  rw [u64_or _ _ (by omega) (by omega) (by omega) (by omega)]
  simp
end Go.Proofs.YtpiflllcjgpkhaaDoor

namespace Go.Proofs.YtpiflllcjgpkhaaDoor
open Go.RowKit Limb
theorem ca_drew {w : World} {a : Addr} : w.drew.cell? a = w.cell? a := rfl
theorem fa_drew {w : World} {a : Addr} : w.drew.frozen? a = w.frozen? a := rfl
theorem ca_past {w : World} {o : Obj} {b i : Nat} (h : b < w.heap.size) : (w.alloc o).cell? ⟨b, i, none⟩ = w.cell? ⟨b, i, none⟩ := World.cell?_of_block (Below.heap_alloc w o b h)
theorem fa_past {w : World} {o : Obj} {b i : Nat} (h : b < w.heap.size) : (w.alloc o).frozen? ⟨b, i, none⟩ = w.frozen? ⟨b, i, none⟩ := World.frozen?_of_block (Below.heap_alloc w o b h)
theorem ca_here {w : World} {c : Array Value} {t : TypeId} {b i : Nat} (h : b = w.heap.size) : (w.alloc (.cells c t)).cell? ⟨b, i, none⟩ = c[i]? := by subst h; exact World.cell?_alloc_new _ _ _ _
theorem fa_here {w : World} {c : Array Value} {t : TypeId} {b i : Nat} (h : b = w.heap.size) : (w.alloc (.cells c t)).frozen? ⟨b, i, none⟩ = false := by
  subst h
  unfold World.frozen?
  rw [show (w.alloc (.cells c t)).heap[(⟨w.heap.size, i, none⟩ : Addr).block]? = some (.cells c t) from heap_alloc_new w _]
  simp
theorem cs_other {w : World} {p : Addr} {u : Value} {b i : Nat} (h : b ≠ p.block) : (w.setCell p u).cell? ⟨b, i, none⟩ = w.cell? ⟨b, i, none⟩ := World.cell?_of_block (Below.heap_setCell w p u b h)
theorem fs_other {w : World} {p : Addr} {u : Value} {b i : Nat} (h : b ≠ p.block) : (w.setCell p u).frozen? ⟨b, i, none⟩ = w.frozen? ⟨b, i, none⟩ := World.frozen?_of_block (Below.heap_setCell w p u b h)
theorem add_same {s : Bool} {x y : Nat} {z z' : Int} (hz : z = if s then -(x : Int) else (x : Int)) (hz' : z' = if s then -(y : Int) else (y : Int)) : z + z' = if s then -((x + y : Nat) : Int) else ((x + y : Nat) : Int) := by
  cases s <;> simp at * <;> omega
theorem add_ge {s s' : Bool} {x y : Nat} {z z' : Int} (hs : s ≠ s') (hz : z = if s then -(x : Int) else (x : Int)) (hz' : z' = if s' then -(y : Int) else (y : Int)) (h : y ≤ x) : z + z' = if s then -((x - y : Nat) : Int) else ((x - y : Nat) : Int) := by
  cases s <;> cases s' <;> simp at * <;> omega
theorem add_lt {s s' : Bool} {x y : Nat} {z z' : Int} (hs : s ≠ s') (hz : z = if s then -(x : Int) else (x : Int)) (hz' : z' = if s' then -(y : Int) else (y : Int)) (h : x ≤ y) : z + z' = if s' then -((y - x : Nat) : Int) else ((y - x : Nat) : Int) := by
  cases s <;> cases s' <;> simp at * <;> omega
theorem digs_le_len {l : List Nat} {k : Nat} (h : l.length ≤ k) (hl : Lm l) : (digs (val l)).length ≤ k := Nat.le_trans (digs_length_le (val_lt hl)) h
end Go.Proofs.YtpiflllcjgpkhaaDoor

namespace Go.Proofs.YtpiflllcjgpkhaaDoor
open Go.RowKit Limb
theorem sz_neg (z : Int) : sz (-z) = sz z := by unfold sz; rw [Int.natAbs_neg]
/-! ### Equality of canonical numbers -/
theorem can_same {w : World} {s : Bool} {a : Option Addr} {n cap : Nat} {z : Int} {s' : Bool} {a' : Option Addr} {n' cap' : Nat} {z' : Int} (h : Can w s a n cap z) (h' : Can w s' a' n' cap' z') :
    (z = z' ∧ s = s' ∧ n = n' ∧ cmpL (digs z.natAbs) (digs z'.natAbs) = 0) ∨ (z ≠ z' ∧ (s ≠ s' ∨ n ≠ n' ∨ cmpL (digs z.natAbs) (digs z'.natAbs) ≠ 0)) := by
  obtain ⟨e1, e2, _⟩ := h
  obtain ⟨e3, e4, _⟩ := h'
  by_cases hz : z = z'
  · left; subst hz; exact ⟨rfl, e1.trans e3.symm, e2.trans e4.symm, cmpL_same _⟩
  · right
    refine ⟨hz, ?_⟩
    by_cases hs : s = s'
    · right; right
      rw [cmpL_digs]
      have hd : decide (z < 0) = decide (z' < 0) := by rw [← e1, ← e3, hs]
      have hd' := decide_eq_decide.1 hd
      by_cases c1 : z.natAbs < z'.natAbs
      · rw [if_pos c1]; omega
      · rw [if_neg c1, if_pos (by omega)]; omega
    · left; exact hs
end Go.Proofs.YtpiflllcjgpkhaaDoor

namespace Go.Proofs.YtpiflllcjgpkhaaDoor
open Go.RowKit Limb
/-- Quotient and rest, as new lists of digits. -/
def DivPost (x y : Nat) (w : World) (e : Ending) (w' : World) : Prop :=
  ∃ a n cap a' n' cap', e = .returned (.tuple #[.slice a n cap, .slice a' n' cap']) ∧ Mg w' (.slice a n cap) (digs (x / y)) ∧ Mg w' (.slice a' n' cap') (digs (x % y)) ∧ n = (digs (x / y)).length ∧ n' = (digs (x % y)).length ∧ Fr w.heap.size a ∧ Fr w.heap.size a' ∧ Below w.heap.size w w'
theorem val_two_lt {l : List Nat} (h : Lm l) (hl : l.length ≤ 2) : val l < 18446744073709551616 := by
  have h1 := val_lt h
  have : B ^ l.length ≤ B ^ 2 := Nat.pow_le_pow_right B_pos hl
  have e : B ^ 2 = 18446744073709551616 := by decide
  omega
theorem run_mag (s : Bool) (a : Option Addr) (n cap : Nat) (w : World) : Sem.run Tryd.prog (Instr.field 25 (.agg #[.bool s, .slice a n cap]) 1) w = .ok (.slice a n cap) w := by kernel_rfl
attribute [local go_sem] run_mag
end Go.Proofs.YtpiflllcjgpkhaaDoor


import Derived.Test.YtpiflllcjgpkhaaGreatDoorMem
import Derived.Test.YtpiflllcjgpkhaaGreatDoorProg
import Derived.Test.YtpiflllcjgpkhaaGreatDoorL
import Derived.Deep.QuietTactic
import Derived.BigQuiet
import Derived.Deep.RegionHeld3
import Derived.Laws.BitsAllLaws
set_option maxRecDepth 3000
namespace Go.Proofs.YtpiflllcjgpkhaaGreatDoor
open Go.RowKit Limb

theorem ret_int' {k : IntKind} {a b : Int} (h : a = b) : Ending.returned (.int k a) = .returned (.int k b) := by rw [h]
theorem ret_bool' {a b : Bool} (h : a = b) : Ending.returned (.bool a) = .returned (.bool b) := by rw [h]
def limbCells (l : List Nat) : List Value := l.map fun x => .int .u32 (x : Nat)
theorem limbCells_length (l : List Nat) : (limbCells l).length = l.length := by simp [limbCells]
theorem limbCells_get {l : List Nat} {i x : Nat} (h : l[i]? = some x) : (limbCells l)[i]? = some (.int .u32 (x : Nat)) := by simp [limbCells, h]
theorem limbCells_append (a b : List Nat) : limbCells (a ++ b) = limbCells a ++ limbCells b := by simp [limbCells]
theorem limbCells_one (l : List Nat) : ∀ u ∈ limbCells l, u.oneCell' = true := by
  intro u hu
  obtain ⟨x, _, rfl⟩ := List.mem_map.1 hu
  rfl
/-- A slice of limbs. -/
def Mg (w : World) (v : Value) (l : List Nat) : Prop := Rd w v l.length (limbCells l) ∧ Lm l
theorem Mg.below {w w' : World} {v : Value} {l : List Nat} (h : Mg w v l) (hb : Below w.heap.size w w') : Mg w' v l := ⟨h.1.below hb, h.2⟩
/-- The slice written out: nil, or an address with its cells. -/
theorem Mg.form {w : World} {v : Value} {l : List Nat} (h : Mg w v l) : ∃ a cap, v = .slice a l.length cap ∧ l.length ≤ cap ∧ cap ≤ maxLen ∧ (a = none → cap = 0) ∧
    (0 < l.length → ∃ b off, a = some ⟨b, off, none⟩ ∧ b < w.heap.size ∧ ∀ j x, l[j]? = some x → w.cell? ⟨b, off + j, none⟩ = some (.int .u32 (x : Nat))) := by
  obtain ⟨⟨a, cap, rfl, h1, ⟨h2, h2'⟩, h3⟩, _⟩ := h
  refine ⟨a, cap, rfl, h1, h2, h2', fun hl => ?_⟩
  obtain ⟨b, off, rfl, hb, hc⟩ := h3 (fun e => by have := congrArg List.length e; rw [limbCells_length] at this; simp at this; simp [this] at hl)
  exact ⟨b, off, rfl, hb, fun j x hj => hc j _ (limbCells_get hj)⟩
theorem Mg.cell {w : World} {b off n cap : Nat} {l : List Nat} (h : Mg w (.slice (some ⟨b, off, none⟩) n cap) l) {j x : Nat} (hx : l[j]? = some x) : w.cell? ⟨b, off + j, none⟩ = some (.int .u32 (x : Nat)) := by
  obtain ⟨a, cap', hv, _, _, _, hr⟩ := h.form
  injection hv with e1 e2 e3
  subst e1
  obtain ⟨b', off', hv', _, hc⟩ := hr (by have := (List.getElem?_eq_some_iff.1 hx).1; omega)
  injection hv' with hv'
  injection hv' with e4 e5
  subst e4 e5
  exact hc j x hx
theorem Mg.of_owns {w : World} {base e : Nat} {v : Value} {l : List Nat} (h : w.ownsRow base e 1 v l.length (limbCells l)) (hl : Lm l) : Mg w v l := ⟨Rd.of_owns h, hl⟩
theorem info32 : (Tryz.prog.info? 108).map (fun i => (i.zero, i.size, i.bytes)) = some (some (.int .u32 0), 1, 4) := by kernel_rfl
/-- A new slice of limbs. -/
def NewMg (w : World) (l : List Nat) (e : Ending) (w' : World) : Prop :=
  ∃ v, e = .returned v ∧ w'.ownsRow w.heap.size 108 1 v l.length (limbCells l) ∧ Below w.heap.size w w'

theorem app_nil (w : World) : (Builtin.append_ #[23, 23] 23 #[.slice none 0 0, .slice none 0 0]).run Tryz.prog w = .ok (.slice none 0 0) w := by kernel_rfl
set_option maxHeartbeats 1000000 in
theorem ztrim_any (v : Value) (l : List Nat) (w : World) (h : Mg w v l) (hlen : l.length ≤ 1099511627776) :
    Calls Tryz.prog 142 #[v] w (NewMg w (digs (val l))) := by
  obtain ⟨i0, hi, hx⟩ := Option.map_eq_some_iff.1 info32
  simp only [Prod.mk.injEq] at hx
  obtain ⟨hz0, hz1, hz2⟩ := hx
  have HL := Lib.hid h.2
  obtain ⟨a, cap, rfl, hcap, hcm, hnil, hrd⟩ := h.form
  unfold maxLen at hcm
  have HRD := Lib.hid hrd
  have HNIL := Lib.hid hnil
  clear h hrd hnil
  go_enter Tryz.func142, Tryz.ntmps142
  go_wp2_with fail
  go_loopg [3] l.length (fun g s3 wr => ∃ (k : Nat), k ≤ l.length ∧ k = g ∧ s3 = .int .i64 k ∧ w = wr ∧ ∀ i x, k ≤ i → l[i]? = some x → x = 0)
  case atStart => exact ⟨l.length, by omega, rfl, rfl, rfl, fun i x hi hx => by rw [List.getElem?_eq_none hi] at hx; cases hx⟩
  case round =>
    obtain ⟨k, hk, rfl, rfl, rfl, hz⟩ := hrel
    have HZ := Lib.hid hz
    clear hz
    cases k with
    | zero =>
      have HT : Hid (digs (val l) = []) := by
        have := trim_digs HL.out (Nat.zero_le _) HZ.out (fun x h => absurd h (Nat.lt_irrefl 0))
        rw [← this]; rfl
      cases a with
      | none =>
        have h0 := HNIL.out rfl
        subst h0
        obtain rfl : l = [] := List.length_eq_zero_iff.1 (by omega)
        have hap := fun w => app_nil w
        go_wp2_with fail
        go_ret
        exact ⟨_, rfl, World.ownsRow_nil _ _ _ _, Below.refl _ _⟩
      | some ad =>
        go_wp2_with (at_builtin; refine wpList_append_own _ rfl _ _ 23 rfl w.heap.size 108 i0 (.int .u32 0) 1 4 Tryz.underlying23 hi hz0 hz1 hz2 rfl (by decide) (.slice none 0 0) 0 [] rfl (World.ownsRow_nil _ _ _ _) ad 0 cap [] rfl rfl ?c1 ?c2 ?c3 ?c4 ?c5 ?_)
        case c1 => simp
        case c2 => simp
        case c3 => unfold maxLen; omega
        case c4 => omega
        case c5 => omega
        intro v' w1 hown' hgrow _
        have HX : Hid (w1.ownsRow w.heap.size 108 1 v' 0 [] ∧ Below w.heap.size w w1) := ⟨hown', (Below.refl _ _).grown hgrow (Nat.le_refl _) (by simp [Value.ownBlock])⟩
        clear hown' hgrow
        go_wp2_with fail
        go_ret
        exact ⟨_, rfl, by rw [HT.out]; exact HX.out.1, HX.out.2⟩
    | succ k =>
      obtain ⟨x, hx⟩ : ∃ x, l[k]? = some x := ⟨_, List.getElem?_eq_getElem (by omega)⟩
      obtain ⟨b, off, rfl, hb, hc⟩ := HRD.out (by omega)
      have hck := hc k x hx
      have hxB := HL.out.get hx
      rw [B_def] at hxB
      by_cases hx0 : x = 0
      · subst hx0
        have HZ2 : Hid (∀ i x, k ≤ i → l[i]? = some x → x = 0) := by
          intro i y hi hy
          by_cases e : i = k
          · subst e; rw [hx] at hy; exact (Option.some.inj hy).symm
          · exact HZ.out i y (by omega) hy
        have HC := Lib.hid hc
        clear hc hx HZ
        go_wp2_with fail
        go_roundg k
        case measure => omega
        case rel => exact ⟨k, by omega, rfl, by go_num, rfl, HZ2.out⟩
      · have hxb : ((x : Int) == 0) = false := by rw [beq_eq_false_iff_ne]; omega
        have HT : Hid (l.take (k + 1) = digs (val l)) := trim_digs HL.out hk HZ.out (fun y _ hy => by rw [Nat.add_sub_cancel, hx] at hy; have := Option.some.inj hy; omega)
        have HC := Lib.hid hc
        clear hc hx HZ hx0
        go_wp2_with (at_builtin; refine wpList_append_own _ rfl _ _ 23 rfl w.heap.size 108 i0 (.int .u32 0) 1 4 Tryz.underlying23 hi hz0 hz1 hz2 rfl (by decide) (.slice none 0 0) 0 [] rfl (World.ownsRow_nil _ _ _ _) ⟨b, off, none⟩ (k + 1) cap (limbCells (l.take (k + 1))) rfl ?c6 ?d1 ?d2 ?d3 ?d4 ?d5 ?_)
        case c6 => rw [limbCells_length, List.length_take]; omega
        case d1 =>
          intro j u hu
          rw [addr_add]
          have hj : j < k + 1 := by
            have := (List.getElem?_eq_some_iff.1 hu).1
            rw [limbCells_length, List.length_take] at this
            omega
          obtain ⟨y, hy⟩ : ∃ y, l[j]? = some y := ⟨_, List.getElem?_eq_getElem (by omega)⟩
          rw [limbCells_get (by rw [List.getElem?_take_of_lt hj]; exact hy)] at hu
          rw [← hu]
          exact HC.out j y hy
        case d2 => exact limbCells_one _
        case d3 => unfold maxLen; omega
        case d4 => omega
        case d5 => omega
        intro v' w1 hown' hgrow _
        have HX : Hid (w1.ownsRow w.heap.size 108 1 v' (l.take (k + 1)).length (limbCells (l.take (k + 1))) ∧ Below w.heap.size w w1) := ⟨by rw [List.length_take, Nat.min_eq_left hk]; exact hown', (Below.refl _ _).grown hgrow (Nat.le_refl _) (by simp [Value.ownBlock])⟩
        clear hown' hgrow
        go_wp2_with fail
        go_ret
        exact ⟨_, rfl, by rw [← HT.out]; exact HX.out.1, HX.out.2⟩

/-- Where a slice lies. -/
def Fr (base : Nat) (a : Option Addr) : Prop := ∀ ad, a = some ad → base ≤ ad.block
theorem Fr.mono {b b' : Nat} {a : Option Addr} (h : Fr b a) (hb : b' ≤ b) : Fr b' a := fun ad e => Nat.le_trans hb (h ad e)
theorem Fr.of_owns {w : World} {base e n cap : Nat} {a : Option Addr} {xs : List Value} (h : w.ownsRow base e 1 (.slice a n cap) n xs) : Fr base a := by
  intro ad e
  subst e
  exact (h.lt ad.block rfl).1
theorem Mg.store {w : World} {a : Option Addr} {n cap base : Nat} {l : List Nat} (h : Mg w (.slice a n cap) l) (hf : Fr base a) {p : Addr} (hp : p.block < base) (u : Value) : Mg (w.setCell p u) (.slice a n cap) l := by
  obtain ⟨⟨a', cap', h0, h1, h2, h3⟩, hl⟩ := h
  injection h0 with e1 e2 e3
  subst e1 e3
  refine ⟨⟨a, cap, by rw [e2], h1, h2, fun hx => ?_⟩, hl⟩
  obtain ⟨b, off, rfl, hb, hc⟩ := h3 hx
  have hne : b ≠ p.block := by have := hf _ rfl; simp only at this; omega
  refine ⟨b, off, rfl, by simpa [World.setCell] using hb, fun j u' hj => ?_⟩
  rw [World.cell?_of_block (w := w) (a := ⟨b, off + j, none⟩) (Below.heap_setCell _ _ _ _ hne)]
  exact hc j u' hj
/-- Old cells and marks read as before. -/
theorem bcell {W w1 : World} (hb : Below W.heap.size W w1) : (∀ b o, b < W.heap.size → w1.cell? ⟨b, o, none⟩ = W.cell? ⟨b, o, none⟩) ∧ (∀ b o, b < W.heap.size → w1.frozen? ⟨b, o, none⟩ = W.frozen? ⟨b, o, none⟩) :=
  ⟨fun b o h => hb.cell (p := ⟨b, o, none⟩) h, fun b o h => hb.frozen (p := ⟨b, o, none⟩) h⟩
theorem below_call {B : Nat} {w W w1 : World} (h : Below B w W) (hb : Below W.heap.size W w1) (hB : B ≤ W.heap.size) : Below B w w1 := h.trans (hb.mono hB)

/-- An Int (its sign, its slice) that denotes z, with at most k limbs. -/
def IsZ (w : World) (s : Bool) (a : Option Addr) (n cap : Nat) (z : Int) (k : Nat) : Prop :=
  ∃ l, l.length = n ∧ Mg w (.slice a n cap) l ∧ n ≤ k ∧ z = if s then -(val l : Int) else (val l : Int)
/-- The canonical Int that denotes z. -/
def Can (w : World) (s : Bool) (a : Option Addr) (n cap : Nat) (z : Int) : Prop := s = decide (z < 0) ∧ n = (digs z.natAbs).length ∧ Mg w (.slice a n cap) (digs z.natAbs)
/-- The number of limbs. -/
def sz (z : Int) : Nat := (digs z.natAbs).length
theorem Can.isZ {w : World} {s : Bool} {a : Option Addr} {n cap : Nat} {z : Int} (h : Can w s a n cap z) : IsZ w s a n cap z (sz z) := by
  obtain ⟨rfl, h2, h3⟩ := h
  refine ⟨_, h2.symm, h3, by rw [h2]; exact Nat.le_refl _, ?_⟩
  rw [val_digs]
  by_cases h : z < 0
  · rw [decide_eq_true h]; simp; omega
  · rw [decide_eq_false h]; simp; omega
theorem IsZ.below {w w' : World} {s : Bool} {a : Option Addr} {n cap : Nat} {z : Int} {k : Nat} (h : IsZ w s a n cap z k) (hb : Below w.heap.size w w') : IsZ w' s a n cap z k := by
  obtain ⟨l, h1, h2, h3, h4⟩ := h
  exact ⟨l, h1, h2.below hb, h3, h4⟩
theorem IsZ.mono {w : World} {s : Bool} {a : Option Addr} {n cap : Nat} {z : Int} {k m : Nat} (h : IsZ w s a n cap z k) (hm : k ≤ m) : IsZ w s a n cap z m := by
  obtain ⟨l, h1, h2, h3, h4⟩ := h
  exact ⟨l, h1, h2, Nat.le_trans h3 hm, h4⟩
theorem Can.below {w w' : World} {s : Bool} {a : Option Addr} {n cap : Nat} {z : Int} (h : Can w s a n cap z) (hb : Below w.heap.size w w') : Can w' s a n cap z := ⟨h.1, h.2.1, h.2.2.below hb⟩
theorem Can.store {w : World} {s : Bool} {a : Option Addr} {n cap base : Nat} {z : Int} (h : Can w s a n cap z) (hf : Fr base a) {p : Addr} (hp : p.block < base) (u : Value) : Can (w.setCell p u) s a n cap z := ⟨h.1, h.2.1, h.2.2.store hf hp u⟩
/-- A call that hands back the canonical Int of z, in new memory. -/
def ZPost (z : Int) (w : World) (e : Ending) (w' : World) : Prop := ∃ s a n cap, e = .returned (.agg #[.bool s, .slice a n cap]) ∧ Can w' s a n cap z ∧ Fr w.heap.size a ∧ Below w.heap.size w w'
theorem signed_neg {neg : Bool} {n : Nat} {z : Int} (h : z = if neg then -(n : Int) else (n : Int)) : z.natAbs = n ∧ decide (z < 0) = (neg && decide (0 < n)) := by
  cases neg
  · simp only [Bool.false_eq_true, if_false] at h
    refine ⟨by omega, ?_⟩
    rw [decide_eq_false (by omega)]; rfl
  · simp only [if_true] at h
    refine ⟨by omega, ?_⟩
    rcases Nat.eq_zero_or_pos n with h0 | h0
    · rw [decide_eq_false (by omega), decide_eq_false (by omega)]; rfl
    · rw [decide_eq_true (by omega), decide_eq_true h0]; rfl
theorem digs_pos (n : Nat) : decide (0 < (digs n).length) = decide (0 < n) := by
  rcases Nat.eq_zero_or_pos n with h | h
  · subst h; rfl
  · rw [decide_eq_true h, decide_eq_true]
    rw [digs_step (by omega)]; simp
/-- The end of a function whose result lies in block R. -/
theorem zfin {w w1 : World} {s : Bool} {a : Option Addr} {n cap base R : Nat} {z : Int} (h1 : Below w.heap.size w w1) (hR : w.heap.size ≤ R) (hlt : R < base) (hc : Can w1 s a n cap z) (hf : Fr base a) (x y : Value) :
    ZPost z w (.returned (.agg #[.bool s, .slice a n cap])) ((w1.setCell ⟨R, 0, none⟩ x).setCell ⟨R, 1, none⟩ y) :=
  ⟨s, a, n, cap, rfl, (hc.store hf (p := ⟨R, 0, none⟩) hlt x).store hf (p := ⟨R, 1, none⟩) hlt y, hf.mono (by omega), (h1.setCell (p := ⟨R, 0, none⟩) hR x).setCell (p := ⟨R, 1, none⟩) hR y⟩

theorem heap_store2 {w : World} {R : Nat} {a b : Value} {t : TypeId} {fr : Nat × Nat} (h : w.heap[R]? = some (.cells #[a, b] t fr)) (x y : Value) :
    ((w.setCell ⟨R, 0, none⟩ x).setCell ⟨R, 1, none⟩ y).heap[R]? = some (.cells #[x, y] t fr) := by
  simp [World.setCell, Array.getElem?_modify, h]
/-- The result that lies in block R. -/
theorem zres {fn : Func} {p : Tmp} {w : World} {R : Nat} {x y : Value} {t : TypeId} {fr : Nat × Nat} {tmps : Array Value} (h : fn.results = #[.cell p 25]) (hp : tmps.getD p undef = .pointer (some ⟨R, 0, none⟩)) (hg : w.heap[R]? = some (.cells #[x, y] t fr)) :
    (results fn tmps).run Tryz.prog w = .ok (.agg #[x, y]) w :=
  results_cell_row h tmps w R t #[x, y] fr _ hp hg Tryz.underlying25 rfl (by kernel_rfl)

set_option maxHeartbeats 1000000 in
theorem zmake_any (neg : Bool) (v : Value) (l : List Nat) (w : World) (z : Int) (h : Mg w v l) (hlen : l.length ≤ 1099511627776) (hz : z = if neg then -(val l : Int) else (val l : Int)) :
    Calls Tryz.prog 128 #[.bool neg, v] w (ZPost z w) := by
  obtain ⟨ha, hd⟩ := signed_neg hz
  rw [← digs_pos] at hd
  obtain ⟨L, hL⟩ : ∃ L, digs (val l) = L := ⟨_, rfl⟩
  have hb0 := (Below.refl w.heap.size w).alloc (Nat.le_refl _) (.cells #[.bool false, .slice none 0 0] 25)
  have C := Lib.hid (ztrim_any v l (w.alloc (.cells #[.bool false, .slice none 0 0] 25)) (h.below hb0) hlen)
  have HLm := Lib.hid (lm_digs (val l))
  have HF : Hid (decide (z < 0) = (neg && decide (0 < L.length)) ∧ digs z.natAbs = L) := by rw [ha, hL, ← hL]; exact ⟨hd, rfl⟩
  rw [hL] at C HLm
  have HB0 := Lib.hid hb0
  clear hz ha hd hL h hb0
  cases neg
  all_goals
    go_enter Tryz.func128, Tryz.ntmps128
    go_wp2_with fail
    refine C.out.mono ?_
    rintro e w1 ⟨v1, rfl, hown, hb⟩
    obtain ⟨a1, cap1, hv1, _⟩ := (Mg.of_owns hown HLm.out).form
    subst hv1
    have HM := Lib.hid (Mg.of_owns hown HLm.out)
    have HFr := Lib.hid (Fr.of_owns hown)
    obtain ⟨hc1, hf1⟩ := bcell hb
    have hs1 := hb.size
    simp at hs1
    have HB := Lib.hid (below_call HB0.out hb (by simp))
    have HR : Hid (w1.heap[w.heap.size]? = some (.cells #[.bool false, .slice none 0 0] 25 (0, 0))) := by show _ = _; rw [hb.block _ (by simp)]; exact heap_alloc_new w _
    clear hown hb
    go_wp2_with fail
    refine bodyPost_ret (v := .agg #[.bool (decide (z < 0)), .slice a1 L.length cap1]) (by rw [HF.out.1]; exact zres rfl rfl (heap_store2 HR.out _ _)) rfl ?_
    refine zfin HB.out (Nat.le_refl _) (base := w.heap.size + 1) (Nat.lt_succ_self _) ⟨rfl, by rw [HF.out.2], by rw [HF.out.2]; exact HM.out⟩ ?_ _ _
    have := HFr.out
    simpa using this

theorem mg_new {W : World} {R c : Nat} {T : TypeId} (l : List Nat) (hR : R = W.heap.size) (hl : Lm l) (hc : l.length ≤ c) (hm : c ≤ maxLen) : Mg (W.alloc (.cells (limbCells l).toArray T)) (.slice (some ⟨R, 0, none⟩) l.length c) l := by
  refine ⟨⟨_, c, rfl, hc, ⟨hm, fun h => by cases h⟩, fun _ => ⟨R, 0, rfl, by simp [hR], fun j u hj => ?_⟩⟩, hl⟩
  have := cells_new W R hR (limbCells l) T j u hj
  rwa [addr_add] at this
theorem val_two (u : Nat) : val [u % B, u / B] = u := by
  simp only [val, Nat.mul_zero, Nat.add_zero]; exact Nat.mod_add_div u B
theorem lm_two {u : Nat} (hu : u < 18446744073709551616) : Lm [u % B, u / B] := by
  have h1 : u % B < B := Nat.mod_lt _ B_pos
  have h2 : u / B < B := by rw [B_def]; omega
  exact Lm.cons h1 (Lm.cons h2 Lm.nil)

set_option maxHeartbeats 1000000 in
theorem zword_any (neg : Bool) (u : Nat) (w : World) (z : Int) (hu : u < 18446744073709551616) (hz : z = if neg then -(u : Int) else (u : Int)) :
    Calls Tryz.prog 110 #[.bool neg, .int .u64 u] w (ZPost z w) := by
  have hm := mg_new (W := w.alloc (.cells #[.bool false, .slice none 0 0] 25)) (R := w.heap.size + 1) (c := 2) (T := 108) [u % B, u / B] (by simp) (lm_two hu) (by simp) (by unfold maxLen; omega)
  have C := Lib.hid (zmake_any neg _ _ _ z hm (by simp) (by rw [val_two]; exact hz))
  have e : (limbCells [u % B, u / B]).toArray = #[.int .u32 ((u : Int) % 4294967296), .int .u32 ((u : Int) / 4294967296)] := by simp [limbCells, B_def]
  rw [e] at C
  have HB0 := Lib.hid (((Below.refl w.heap.size w).alloc (Nat.le_refl _) (.cells #[.bool false, .slice none 0 0] 25)).alloc (by simp) (.cells #[.int .u32 ((u : Int) % 4294967296), .int .u32 ((u : Int) / 4294967296)] 108))
  clear hm hz e
  go_enter Tryz.func110, Tryz.ntmps110
  go_wp2_with fail
  refine C.out.mono ?_
  rintro e w1 ⟨s1, a1, n1, cap1, rfl, hz1, hfr1, hb⟩
  obtain ⟨hc1, hf1⟩ := bcell hb
  have hs1 := hb.size
  simp at hs1
  have HZ := Lib.hid hz1
  have HFr := Lib.hid hfr1
  have HB := Lib.hid (below_call HB0.out hb (by simp; omega))
  have HR : Hid (w1.heap[w.heap.size]? = some (.cells #[.bool false, .slice none 0 0] 25 (0, 0))) := by show _ = _; rw [hb.block _ (by simp; omega), Below.heap_alloc _ _ _ (by simp)]; exact heap_alloc_new w _
  clear hb hz1 hfr1
  go_wp2_with fail
  refine bodyPost_ret (v := .agg #[.bool s1, .slice a1 n1 cap1]) (zres rfl rfl (heap_store2 HR.out _ _)) rfl ?_
  exact zfin HB.out (Nat.le_refl _) (base := w.heap.size + 1) (Nat.lt_succ_self _) HZ.out (HFr.out.mono (by simp)) _ _

theorem u64_neg {n : Int} (h1 : -9223372036854775808 ≤ n) (h2 : n < 0) : IntKind.u64.wrap (-(IntKind.u64.wrap n)) = -n := by
  rw [IntKind.wrap_u64, IntKind.wrap_u64]; omega
theorem size_setCell (w : World) (p : Addr) (u : Value) : (w.setCell p u).heap.size = w.heap.size := by simp [World.setCell]
theorem cell_store2 {w : World} {R : Nat} {a b : Value} (c0 : w.cell? ⟨R, 0, none⟩ = some a) (c1 : w.cell? ⟨R, 1, none⟩ = some b) (x y : Value) :
    ((w.setCell ⟨R, 0, none⟩ x).setCell ⟨R, 1, none⟩ y).cell? ⟨R, 0, none⟩ = some x ∧ ((w.setCell ⟨R, 0, none⟩ x).setCell ⟨R, 1, none⟩ y).cell? ⟨R, 1, none⟩ = some y := by
  unfold World.cell? at *
  simp only [World.setCell, Array.getElem?_modify]
  cases hh : w.heap[R]? with
  | none => simp [hh] at c0
  | some o =>
    cases o with
    | cells cs t fr =>
      simp only [hh] at c0 c1
      simp at c0 c1
      have h0 := (Array.getElem?_eq_some_iff.1 c0).1
      have h1 := (Array.getElem?_eq_some_iff.1 c1).1
      simp [h0, h1]
    | _ => simp [hh] at c0
/-- The result that lies in block R, behind the store. -/
theorem zres2 {fn : Func} {p : Tmp} {w : World} {R : Nat} {x y a b : Value} {tmps : Array Value} (h : fn.results = #[.cell p 25]) (hp : tmps.getD p undef = .pointer (some ⟨R, 0, none⟩)) (c0 : w.cell? ⟨R, 0, none⟩ = some a) (c1 : w.cell? ⟨R, 1, none⟩ = some b) :
    (results fn tmps).run Tryz.prog ((w.setCell ⟨R, 0, none⟩ x).setCell ⟨R, 1, none⟩ y) = .ok (.agg #[x, y]) ((w.setCell ⟨R, 0, none⟩ x).setCell ⟨R, 1, none⟩ y) := by
  obtain ⟨d0, d1⟩ := cell_store2 c0 c1 x y
  have hp' : tmps[p]?.getD undef = .pointer (some ⟨R, 0, none⟩) := by simpa using hp
  simp [results, h, hp', asAddr, go_sem, d0, d1]
set_option maxHeartbeats 1000000 in
theorem zsmall_any (n : Int) (w : World) (h1 : -9223372036854775808 ≤ n) (h2 : n ≤ 9223372036854775807) :
    Calls Tryz.prog 83 #[.int .i64 n] w (ZPost n w) := by
  have HB0 := Lib.hid ((Below.refl w.heap.size w).alloc (Nat.le_refl _) (.cells #[.bool false, .slice none 0 0] 25))
  obtain ⟨u, hu⟩ : ∃ u : Nat, n.natAbs = u := ⟨_, rfl⟩
  by_cases hn : n < 0
  · have C := Lib.hid (zword_any true u (w.alloc (.cells #[.bool false, .slice none 0 0] 25)) n (by omega) (by simp; omega))
    rw [show (u : Int) = -n by omega] at C
    have hu64 := u64_neg h1 hn
    clear hu
    go_enter Tryz.func83, Tryz.ntmps83
    go_wp2_with fail
    refine (C.out).mono ?_
    rintro e w1 ⟨s1, a1, n1, cap1, rfl, hz1, hfr1, hb1⟩
    obtain ⟨hc1, hf1⟩ := bcell hb1
    have hs1 := hb1.size
    repeat first | rw [World.size_alloc] at hs1 | rw [size_setCell] at hs1
    have HZ1 := Lib.hid hz1
    have HFr1 := Lib.hid hfr1
    have HB1 := Lib.hid (below_call HB0.out hb1 (by first | omega | (simp; done) | (simp; omega)))
    have HbN1 := Lib.hid hb1
    clear hz1 hfr1 hb1
    go_wp2_with fail
    refine bodyPost_ret (v := .agg #[.bool s1, .slice a1 n1 cap1]) (zres2 rfl rfl (w := w1) (a := .bool false) (b := .slice none 0 0) (R := w.heap.size) (by simp (disch := first | omega | (simp; done) | (simp; omega)) [hc1]) (by simp (disch := first | omega | (simp; done) | (simp; omega)) [hc1])) rfl ?_
    exact zfin HB1.out (by first | omega | (simp; done) | (simp; omega)) (R := w.heap.size) (base := w.heap.size + 1) (Nat.lt_succ_self _) HZ1.out (HFr1.out.mono (by first | omega | (simp; done) | (simp; omega))) _ _
  · have C := Lib.hid (zword_any false u (w.alloc (.cells #[.bool false, .slice none 0 0] 25)) n (by omega) (by simp; omega))
    rw [show (u : Int) = n by omega] at C
    clear hu
    go_enter Tryz.func83, Tryz.ntmps83
    go_wp2_with fail
    refine (C.out).mono ?_
    rintro e w1 ⟨s1, a1, n1, cap1, rfl, hz1, hfr1, hb1⟩
    obtain ⟨hc1, hf1⟩ := bcell hb1
    have hs1 := hb1.size
    repeat first | rw [World.size_alloc] at hs1 | rw [size_setCell] at hs1
    have HZ1 := Lib.hid hz1
    have HFr1 := Lib.hid hfr1
    have HB1 := Lib.hid (below_call HB0.out hb1 (by first | omega | (simp; done) | (simp; omega)))
    have HbN1 := Lib.hid hb1
    clear hz1 hfr1 hb1
    go_wp2_with fail
    refine bodyPost_ret (v := .agg #[.bool s1, .slice a1 n1 cap1]) (zres2 rfl rfl (w := w1) (a := .bool false) (b := .slice none 0 0) (R := w.heap.size) (by simp (disch := first | omega | (simp; done) | (simp; omega)) [hc1]) (by simp (disch := first | omega | (simp; done) | (simp; omega)) [hc1])) rfl ?_
    exact zfin HB1.out (by first | omega | (simp; done) | (simp; omega)) (R := w.heap.size) (base := w.heap.size + 1) (Nat.lt_succ_self _) HZ1.out (HFr1.out.mono (by first | omega | (simp; done) | (simp; omega))) _ _

set_option maxHeartbeats 1000000 in
theorem zabs_any (s : Bool) (a : Option Addr) (n cap : Nat) (z : Int) (k : Nat) (w : World) (h : IsZ w s a n cap z k) (hk : k ≤ 1099511627776) :
    Calls Tryz.prog 143 #[.agg #[.bool s, .slice a n cap]] w (ZPost (z.natAbs : Int) w) := by
  have hb0 := ((Below.refl w.heap.size w).alloc (Nat.le_refl _) (.cells #[.bool s, .slice a n cap] 25)).alloc (by first | omega | (simp; done) | (simp; omega)) (.cells #[.bool false, .slice none 0 0] 25)
  obtain ⟨l, hl, hm, hn, hz⟩ := h
  have C := Lib.hid (zmake_any false _ _ _ (z.natAbs : Int) (hm.below hb0) (by omega) (by rw [(signed_neg hz).1]; simp))
  have HB0 := Lib.hid hb0
  clear hm hl hz hb0
  go_enter Tryz.func143, Tryz.ntmps143
  go_wp2_with fail
  refine (C.out).mono ?_
  rintro e w1 ⟨s1, a1, n1, cap1, rfl, hz1, hfr1, hb1⟩
  obtain ⟨hc1, hf1⟩ := bcell hb1
  have hs1 := hb1.size
  repeat first | rw [World.size_alloc] at hs1 | rw [size_setCell] at hs1
  have HZ1 := Lib.hid hz1
  have HFr1 := Lib.hid hfr1
  have HB1 := Lib.hid (below_call HB0.out hb1 (by first | omega | (simp; done) | (simp; omega)))
  have HbN1 := Lib.hid hb1
  clear hz1 hfr1 hb1
  go_wp2_with fail
  refine bodyPost_ret (v := .agg #[.bool s1, .slice a1 n1 cap1]) (zres2 rfl rfl (w := w1) (a := .bool false) (b := .slice none 0 0) (R := (w.heap.size + 1)) (by simp (disch := first | omega | (simp; done) | (simp; omega)) [hc1]) (by simp (disch := first | omega | (simp; done) | (simp; omega)) [hc1])) rfl ?_
  exact zfin HB1.out (by first | omega | (simp; done) | (simp; omega)) (R := (w.heap.size + 1)) (base := (w.heap.size + 1) + 1) (Nat.lt_succ_self _) HZ1.out (HFr1.out.mono (by first | omega | (simp; done) | (simp; omega))) _ _
set_option maxHeartbeats 1000000 in
theorem zneg_any (s : Bool) (a : Option Addr) (n cap : Nat) (z : Int) (k : Nat) (w : World) (h : IsZ w s a n cap z k) (hk : k ≤ 1099511627776) :
    Calls Tryz.prog 123 #[.agg #[.bool s, .slice a n cap]] w (ZPost (-z) w) := by
  have hb0 := ((Below.refl w.heap.size w).alloc (Nat.le_refl _) (.cells #[.bool s, .slice a n cap] 25)).alloc (by first | omega | (simp; done) | (simp; omega)) (.cells #[.bool false, .slice none 0 0] 25)
  obtain ⟨l, hl, hm, hn, hz⟩ := h
  have C := Lib.hid (zmake_any (!s) _ _ _ (-z) (hm.below hb0) (by omega) (by rw [hz]; cases s <;> simp))
  have HB0 := Lib.hid hb0
  clear hm hl hz hb0
  go_enter Tryz.func123, Tryz.ntmps123
  go_wp2_with fail
  refine (C.out).mono ?_
  rintro e w1 ⟨s1, a1, n1, cap1, rfl, hz1, hfr1, hb1⟩
  obtain ⟨hc1, hf1⟩ := bcell hb1
  have hs1 := hb1.size
  repeat first | rw [World.size_alloc] at hs1 | rw [size_setCell] at hs1
  have HZ1 := Lib.hid hz1
  have HFr1 := Lib.hid hfr1
  have HB1 := Lib.hid (below_call HB0.out hb1 (by first | omega | (simp; done) | (simp; omega)))
  have HbN1 := Lib.hid hb1
  clear hz1 hfr1 hb1
  go_wp2_with fail
  refine bodyPost_ret (v := .agg #[.bool s1, .slice a1 n1 cap1]) (zres2 rfl rfl (w := w1) (a := .bool false) (b := .slice none 0 0) (R := (w.heap.size + 1)) (by simp (disch := first | omega | (simp; done) | (simp; omega)) [hc1]) (by simp (disch := first | omega | (simp; done) | (simp; omega)) [hc1])) rfl ?_
  exact zfin HB1.out (by first | omega | (simp; done) | (simp; omega)) (R := (w.heap.size + 1)) (base := (w.heap.size + 1) + 1) (Nat.lt_succ_self _) HZ1.out (HFr1.out.mono (by first | omega | (simp; done) | (simp; omega))) _ _
end Go.Proofs.YtpiflllcjgpkhaaGreatDoor

namespace Go.Proofs.YtpiflllcjgpkhaaGreatDoor
open Go.RowKit Limb

set_option maxHeartbeats 1000000 in
theorem zsign_any (s : Bool) (a : Option Addr) (n cap : Nat) (z : Int) (k : Nat) (w : World) (h : IsZ w s a n cap z k) (hk : k ≤ 1099511627776) :
    Calls Tryz.prog 122 #[.agg #[.bool s, .slice a n cap]] w fun e w' => e = .returned (.int .i64 (sg3 z)) ∧ Below w.heap.size w w' := by
  have hb0 := (Below.refl w.heap.size w).alloc (Nat.le_refl _) (.cells #[.bool s, .slice a n cap] 25)
  obtain ⟨l, hl, hm, hn, hz⟩ := h
  have C := Lib.hid (ztrim_any _ _ _ (hm.below hb0) (by omega))
  have HB0 := Lib.hid hb0
  rcases sign_cases hz with ⟨h0, h1⟩ | ⟨h0, rfl, h1⟩ | ⟨h0, rfl, h1⟩
  all_goals
    have H1 := Lib.hid h1
    have hL : ((digs (val l)).length == 0) = (val l == 0) := by
      have := digs_pos (val l)
      rw [Bool.eq_iff_iff, beq_iff_eq, beq_iff_eq]
      have h := decide_eq_decide.1 this
      omega
    have hL2 : (((digs (val l)).length : Int) == 0) = (val l == 0) := by rw [← hL, Bool.eq_iff_iff, beq_iff_eq, beq_iff_eq]; omega
    have hv : (val l == 0) = true ∨ (val l == 0) = false := by cases (val l == 0) <;> simp
    first
      | (have hv0 : (val l == 0) = true := by rw [beq_iff_eq]; exact h0
         rw [hv0] at hL2)
      | (have hv0 : (val l == 0) = false := by rw [beq_eq_false_iff_ne]; omega
         rw [hv0] at hL2)
    clear h0 h1 hz hm hl hb0 hL hv hv0
    go_enter Tryz.func122, Tryz.ntmps122
    go_wp2_with fail
    refine (C.out).mono ?_
    rintro e w1 ⟨v1, rfl, hown1, hb1⟩
    obtain ⟨a1, cap1, hv1, hcap1, hcm1, hnil1, _⟩ := (Mg.of_owns hown1 (lm_digs _)).form
    subst hv1
    have HM1 := Lib.hid (Mg.of_owns hown1 (lm_digs _))
    have HFr1 := Lib.hid (Fr.of_owns hown1)
    obtain ⟨hc1, hf1⟩ := bcell hb1
    have hs1 := hb1.size
    repeat first | rw [World.size_alloc] at hs1 | rw [size_setCell] at hs1
    have HB1 := Lib.hid (below_call HB0.out hb1 (by first | omega | (simp; done) | (simp; omega)))
    have HbN1 := Lib.hid hb1
    clear hown1 hb1 hnil1
    go_wp2_with fail
    go_ret
    exact ⟨ret_int' H1.out.symm, HB1.out⟩

set_option maxHeartbeats 2000000 in
theorem zcmp_any (v1 v2 : Value) (l1 l2 : List Nat) (w : World) (h1 : Mg w v1 l1) (h2 : Mg w v2 l2) (hl1 : l1.length ≤ 1099511627776) (_hl2 : l2.length ≤ 1099511627776) :
    Calls Tryz.prog 48 #[v1, v2] w fun e w' => e = .returned (.int .i64 (cmpL l1 l2)) ∧ Below w.heap.size w w' := by
  have H1 := Lib.hid h1
  have H2 := Lib.hid h2
  obtain ⟨a1, cap1, rfl, _, _, _, _⟩ := h1.form
  obtain ⟨a2, cap2, rfl, _, _, _, _⟩ := h2.form
  clear h1 h2
  rcases Nat.lt_trichotomy l1.length l2.length with hlt | heq | hgt
  · have HC : Hid (cmpL l1 l2 = -1) := by show cmpL l1 l2 = -1; unfold cmpL; rw [if_pos hlt]
    have hb : ((l1.length : Int) != (l2.length : Int)) = true := by rw [bne_iff_ne]; omega
    go_enter Tryz.func48, Tryz.ntmps48
    go_wp2_with fail
    go_ret
    exact ⟨ret_int' HC.out.symm, Below.refl _ _⟩
  · have hb : ((l1.length : Int) != (l2.length : Int)) = false := by simp [heq]
    have HQ := Lib.hid heq
    clear heq
    go_enter Tryz.func48, Tryz.ntmps48
    go_wp2_with fail
    go_loopg [4, 5] l1.length (fun g s4 s5 wr => s5 = .int .i64 ((g : Int) - 1) ∧ g ≤ l1.length ∧ l1.drop g = l2.drop g ∧ Below w.heap.size w wr)
    case atStart => exact ⟨rfl, Nat.le_refl _, by rw [List.drop_eq_nil_of_le (Nat.le_refl _), List.drop_eq_nil_of_le (by rw [HQ.out]; exact Nat.le_refl _)], Below.refl _ _⟩
    case round =>
      obtain ⟨rfl, hg, hdr, hbx⟩ := hrel
      have HD := Lib.hid hdr
      have HBX := Lib.hid hbx
      clear hdr
      cases gk with
      | zero =>
        have HC : Hid (cmpL l1 l2 = 0) := by
          have : l1 = l2 := by simpa using HD.out
          show cmpL l1 l2 = 0
          rw [this, cmpL_same]
        clear hbx
        go_wp2_with fail
        go_ret
        exact ⟨ret_int' HC.out.symm, HBX.out⟩
      | succ g =>
        obtain ⟨x, hx⟩ : ∃ x, l1[g]? = some x := ⟨_, List.getElem?_eq_getElem (by omega)⟩
        obtain ⟨y, hy⟩ : ∃ y, l2[g]? = some y := ⟨_, List.getElem?_eq_getElem (by have := HQ.out; omega)⟩
        have hq := HQ.out
        obtain ⟨a1', cap1', hv1, _, _, _, hr1⟩ := (H1.out.below hbx).form
        obtain ⟨a2', cap2', hv2, _, _, _, hr2⟩ := (H2.out.below hbx).form
        injection hv1 with e1 e2 e3
        injection hv2 with e4 e5 e6
        subst e1 e3 e4 e6
        obtain ⟨b1, off1, rfl, hb1, hcl1⟩ := hr1 (by omega)
        obtain ⟨b2, off2, rfl, hb2, hcl2⟩ := hr2 (by omega)
        have c1 := hcl1 g x hx
        have c2 := hcl2 g y hy
        have hxB := H1.out.2.get hx
        have hyB := H2.out.2.get hy
        rw [B_def] at hxB hyB
        have hg2 : g < l2.length := by omega
        have hgi1 : (g : Int) < (l1.length : Int) := by omega
        have hgi2 : (g : Int) < (l2.length : Int) := by omega
        have HL1 := Lib.hid H1.out.2
        have HL2 := Lib.hid H2.out.2
        have HX := Lib.hid hx
        have HY := Lib.hid hy
        clear hcl1 hcl2 e2 e5 hbx hx hy hq
        rcases Nat.lt_trichotomy x y with hxy | hxy | hxy
        · have HC : Hid (cmpL l1 l2 = -1) := by
            have := val_lt_of_top HQ.out HL1.out HX.out HY.out hxy HD.out
            show cmpL l1 l2 = -1
            unfold cmpL
            rw [if_neg (by rw [HQ.out]; omega), if_neg (by rw [HQ.out]; omega), if_pos this]
          have hne : ((x : Int) != (y : Int)) = true := by rw [bne_iff_ne]; omega
          have hlti : decide (x < y) = true := decide_eq_true hxy
          go_wp2_with fail
          go_quiet (fail)
          go_wp2_with fail
          go_quiet (fail)
          go_wp2_with fail
          go_ret
          exact ⟨ret_int' HC.out.symm, by first | exact below_drewN HBX.out _ | exact below_drewN (below_drewN HBX.out _) _⟩
        · subst hxy
          have HD2 : Hid (l1.drop g = l2.drop g) := by
            have e1 := List.drop_eq_getElem_cons (l := l1) (i := g) (by omega)
            have e2 := List.drop_eq_getElem_cons (l := l2) (i := g) (by omega)
            show l1.drop g = l2.drop g
            rw [e1, e2, HD.out]
            congr 1
            rw [(List.getElem?_eq_some_iff.1 HX.out).2, (List.getElem?_eq_some_iff.1 HY.out).2]
          have hne : ((x : Int) != (x : Int)) = false := by simp
          go_wp2_with fail
          go_quiet (fail)
          go_wp2_with fail
          go_roundg g
          case measure => omega
          case rel => exact ⟨by go_num, by omega, HD2.out, below_drewN HBX.out _⟩
        · have HC : Hid (cmpL l1 l2 = 1) := by
            have := val_lt_of_top HQ.out.symm HL2.out HY.out HX.out hxy HD.out.symm
            show cmpL l1 l2 = 1
            unfold cmpL
            rw [if_neg (by rw [HQ.out]; omega), if_neg (by rw [HQ.out]; omega), if_neg (by omega), if_pos this]
          have hne : ((x : Int) != (y : Int)) = true := by rw [bne_iff_ne]; omega
          have hlti : decide (x < y) = false := decide_eq_false (by omega)
          go_wp2_with fail
          go_quiet (fail)
          go_wp2_with fail
          go_quiet (fail)
          go_wp2_with fail
          go_ret
          exact ⟨ret_int' HC.out.symm, by first | exact below_drewN HBX.out _ | exact below_drewN (below_drewN HBX.out _) _⟩
  · have HC : Hid (cmpL l1 l2 = 1) := by show cmpL l1 l2 = 1; unfold cmpL; rw [if_neg (by omega), if_pos hgt]
    have hb : ((l1.length : Int) != (l2.length : Int)) = true := by rw [bne_iff_ne]; omega
    go_enter Tryz.func48, Tryz.ntmps48
    go_wp2_with fail
    go_ret
    exact ⟨ret_int' HC.out.symm, Below.refl _ _⟩
end Go.Proofs.YtpiflllcjgpkhaaGreatDoor

namespace Go.Proofs.YtpiflllcjgpkhaaGreatDoor
open Go.RowKit Limb
/-- A new slice of limbs of value N, at most K long. -/
def RawPost (N K : Nat) (w : World) (e : Ending) (w' : World) : Prop :=
  ∃ L v, e = .returned v ∧ w'.ownsRow w.heap.size 108 1 v L.length (limbCells L) ∧ Lm L ∧ val L = N ∧ L.length ≤ K ∧ Below w.heap.size w w'
theorem limbs_snoc {w : World} {base : Nat} {v : Value} {O : List Nat} {X : Int} {d : Nat} (h : w.ownsRow base 108 1 v (O.length + 1) (limbCells O ++ [.int .u32 X])) (hX : X = (d : Int)) : w.ownsRow base 108 1 v (O ++ [d]).length (limbCells (O ++ [d])) := by
  rw [limbCells_append, List.length_append]
  subst hX
  exact h
theorem one_u32 (X : Int) : ∀ u ∈ ([.int .u32 X] : List Value), u.oneCell' = true := by
  intro u hu
  rw [List.mem_singleton] at hu
  subst hu; rfl
theorem le_alloc {w : World} {a : Nat} (h : a ≤ w.heap.size) (o : Obj) : a ≤ (w.alloc o).heap.size := by simp; omega
set_option maxHeartbeats 2000000 in
theorem zsum_any (v1 v2 : Value) (l1 l2 : List Nat) (w : World) (h1 : Mg w v1 l1) (h2 : Mg w v2 l2) (hl1 : l1.length ≤ 1099511627776) (hl2 : l2.length ≤ 1099511627776) :
    Calls Tryz.prog 146 #[v1, v2] w (RawPost (val l1 + val l2) (max l1.length l2.length + 1) w) := by
  obtain ⟨i0, hi, hx⟩ := Option.map_eq_some_iff.1 info32
  simp only [Prod.mk.injEq] at hx
  obtain ⟨hz0, hz1, hz2⟩ := hx
  have H1 := Lib.hid h1
  have H2 := Lib.hid h2
  obtain ⟨a1, cap1, rfl, _, _, _, _⟩ := h1.form
  obtain ⟨a2, cap2, rfl, _, _, _, _⟩ := h2.form
  clear h1 h2
  go_enter Tryz.func146, Tryz.ntmps146
  go_wp2_with fail
  go_loopg [5, 6, 7] (max l1.length l2.length) (fun g s5 s6 s7 wr => ∃ (i c : Nat) (O : List Nat), i + g = max l1.length l2.length ∧ s6 = .int .u64 c ∧ s7 = .int .i64 i ∧ SumInv l1 l2 i O c ∧ wr.ownsRow w.heap.size 108 1 s5 O.length (limbCells O) ∧ Below w.heap.size w wr)
  case atStart => exact ⟨0, 0, [], by omega, rfl, rfl, SumInv.start _ _, World.ownsRow_nil _ _ _ _, Below.refl _ _⟩
  case round =>
    obtain ⟨i, c, O, hig, rfl, rfl, hI, hown, hbel⟩ := hrel
    have hc1 : c ≤ 1 := hI.2.2.1
    have hOl := hI.1
    have HI := Lib.hid hI
    have hsz := hbel.size
    obtain ⟨wo, rfl⟩ : ∃ wo : World, wo = wr := ⟨_, rfl⟩
    cases gk with
    | zero =>
      have hn1 : ¬ (i : Int) < (l1.length : Int) := by omega
      have hn2 : ¬ (i : Int) < (l2.length : Int) := by omega
      have HE := Lib.hid (hI.done (by omega) (by omega))
      have HO := Lib.hid hown
      have HBe := Lib.hid hbel
      have hOlen : O.length ≤ 1099511627776 := by omega
      have HOL := Lib.hid hOl
      clear hown hbel hI hOl
      have HA3x : Hid (O.length + 1 ≤ maxLen) := by show _ ≤ _; unfold maxLen; omega
      have HA4x : Hid ((O.length + 1) * 4 ≤ 140737488355328) := by show _ ≤ _; omega
      go_wp2_with (at_builtin; refine wpList_append_own _ rfl _ _ 23 rfl w.heap.size 108 i0 (.int .u32 0) 1 4 Tryz.underlying23 hi hz0 hz1 hz2 rfl (by decide) _ _ _ rfl (HO.out.alloc _) ⟨wo.heap.size, 0, none⟩ 1 1 [_] rfl rfl (cell_one_new _ _ _) (one_u32 _) HA3x.out HA4x.out (le_alloc hsz _) ?_)
      intro vx wx hownx hgrowx _
      have HX : Hid (wx.ownsRow w.heap.size 108 1 vx (O ++ [c]).length (limbCells (O ++ [c])) ∧ Below w.heap.size w wx) :=
        ⟨limbs_snoc hownx rfl, (HBe.out.alloc hsz _).grown hgrowx (le_alloc hsz _) fun k hk => (HO.out.lt k hk).1⟩
      clear hownx hgrowx
      go_wp2_with fail
      go_ret
      exact ⟨O ++ [c], _, rfl, HX.out.1, HE.out.1, HE.out.2, by have := HOL.out; rw [List.length_append, List.length_singleton]; omega, HX.out.2⟩
    | succ g =>
      have hst := hI.step H1.out.2 H2.out.2
      have HO := Lib.hid hown
      have HBe := Lib.hid hbel
      have hOlen : O.length ≤ 1099511627776 := by omega
      have hgetx := getD_lt H1.out.2 i
      have hgety := getD_lt H2.out.2 i
      rw [B_def] at hgetx hgety
      have hways : ∃ x y : Nat, l1[i]?.getD 0 = x ∧ l2[i]?.getD 0 = y ∧ ((i < l1.length ∧ i < l2.length ∧ l1[i]? = some x ∧ l2[i]? = some y) ∨ (i < l1.length ∧ ¬ i < l2.length ∧ l1[i]? = some x ∧ y = 0) ∨ (¬ i < l1.length ∧ i < l2.length ∧ x = 0 ∧ l2[i]? = some y)) := by
        refine ⟨_, _, rfl, rfl, ?_⟩
        by_cases c1 : i < l1.length <;> by_cases c2 : i < l2.length
        · left; exact ⟨c1, c2, by rw [List.getElem?_eq_getElem c1]; rfl, by rw [List.getElem?_eq_getElem c2]; rfl⟩
        · right; left; exact ⟨c1, c2, by rw [List.getElem?_eq_getElem c1]; rfl, by rw [List.getElem?_eq_none (by omega)]; rfl⟩
        · right; right; exact ⟨c1, c2, by rw [List.getElem?_eq_none (by omega)]; rfl, by rw [List.getElem?_eq_getElem c2]; rfl⟩
        · omega
      obtain ⟨x, y, ex, ey, hways⟩ := hways
      rw [ex, ey] at hst
      rw [ex] at hgetx
      rw [ey] at hgety
      have HST := Lib.hid hst
      clear hst ex ey hI
      have f1 := H1.out.below hbel
      have f2 := H2.out.below hbel
      obtain ⟨a1', cap1', hv1, _, _, _, hr1⟩ := f1.form
      obtain ⟨a2', cap2', hv2, _, _, _, hr2⟩ := f2.form
      injection hv1 with e1 e2 e3
      injection hv2 with e4 e5 e6
      subst e1 e3 e4 e6
      clear e2 e5 f1 f2 hown hbel
      have HOl := Lib.hid hOl
      clear hOl
      rcases hways with ⟨q1, q2, g1, g2⟩ | ⟨q1, q2, g1, rfl⟩ | ⟨q1, q2, rfl, g2⟩
      · obtain ⟨b1, off1, rfl, hb1, hcl1⟩ := hr1 (by omega)
        obtain ⟨b2, off2, rfl, hb2, hcl2⟩ := hr2 (by omega)
        have c1 := hcl1 i x g1
        have c2 := hcl2 i y g2
        have qi1 : (i : Int) < (l1.length : Int) := by omega
        have qi2 : (i : Int) < (l2.length : Int) := by omega
        clear hr1 hr2 hcl1 g1 hcl2 g2
        have HA3y0 : Hid (O.length + 1 ≤ maxLen) := by show _ ≤ _; unfold maxLen; omega
        have HA4y0 : Hid ((O.length + 1) * 4 ≤ 140737488355328) := by show _ ≤ _; omega
        go_wp2_with (at_builtin; refine wpList_append_own _ rfl _ _ 23 rfl w.heap.size 108 i0 (.int .u32 0) 1 4 Tryz.underlying23 hi hz0 hz1 hz2 rfl (by decide) _ _ _ rfl (HO.out.alloc _) ⟨wo.heap.size, 0, none⟩ 1 1 [_] rfl rfl (cell_one_new _ _ _) (one_u32 _) HA3y0.out HA4y0.out (le_alloc hsz _) ?_)
        intro vy0 wy0 howny0 hgrowy0 _
        have HX : Hid (wy0.ownsRow w.heap.size 108 1 vy0 (O ++ [(c + x + y) % B]).length (limbCells (O ++ [(c + x + y) % B])) ∧ Below w.heap.size w wy0) :=
          ⟨limbs_snoc howny0 (by rw [B_def]; omega), (HBe.out.alloc hsz _).grown hgrowy0 (le_alloc hsz _) fun k hk => (HO.out.lt k hk).1⟩
        clear howny0 hgrowy0
        go_wp2_with fail
        go_roundg g
        case measure => omega
        case rel => exact ⟨i + 1, (c + x + y) / B, _, by omega, by rw [B_def]; go_num, by go_num, HST.out, HX.out.1, HX.out.2⟩
      · obtain ⟨b1, off1, rfl, hb1, hcl1⟩ := hr1 (by omega)
        have c1 := hcl1 i x g1
        have qi1 : (i : Int) < (l1.length : Int) := by omega
        have qi2 : ¬ (i : Int) < (l2.length : Int) := by omega
        clear hr1 hr2 hcl1 g1 
        have HA3y1 : Hid (O.length + 1 ≤ maxLen) := by show _ ≤ _; unfold maxLen; omega
        have HA4y1 : Hid ((O.length + 1) * 4 ≤ 140737488355328) := by show _ ≤ _; omega
        go_wp2_with (at_builtin; refine wpList_append_own _ rfl _ _ 23 rfl w.heap.size 108 i0 (.int .u32 0) 1 4 Tryz.underlying23 hi hz0 hz1 hz2 rfl (by decide) _ _ _ rfl (HO.out.alloc _) ⟨wo.heap.size, 0, none⟩ 1 1 [_] rfl rfl (cell_one_new _ _ _) (one_u32 _) HA3y1.out HA4y1.out (le_alloc hsz _) ?_)
        intro vy1 wy1 howny1 hgrowy1 _
        have HX : Hid (wy1.ownsRow w.heap.size 108 1 vy1 (O ++ [(c + x + 0) % B]).length (limbCells (O ++ [(c + x + 0) % B])) ∧ Below w.heap.size w wy1) :=
          ⟨limbs_snoc howny1 (by rw [B_def]; omega), (HBe.out.alloc hsz _).grown hgrowy1 (le_alloc hsz _) fun k hk => (HO.out.lt k hk).1⟩
        clear howny1 hgrowy1
        go_wp2_with fail
        go_roundg g
        case measure => omega
        case rel => exact ⟨i + 1, (c + x + 0) / B, _, by omega, by rw [B_def]; go_num, by go_num, HST.out, HX.out.1, HX.out.2⟩
      · obtain ⟨b2, off2, rfl, hb2, hcl2⟩ := hr2 (by omega)
        have c2 := hcl2 i y g2
        have qi1 : ¬ (i : Int) < (l1.length : Int) := by omega
        have qi2 : (i : Int) < (l2.length : Int) := by omega
        clear hr1 hr2  hcl2 g2
        have HA3y2 : Hid (O.length + 1 ≤ maxLen) := by show _ ≤ _; unfold maxLen; omega
        have HA4y2 : Hid ((O.length + 1) * 4 ≤ 140737488355328) := by show _ ≤ _; omega
        go_wp2_with (at_builtin; refine wpList_append_own _ rfl _ _ 23 rfl w.heap.size 108 i0 (.int .u32 0) 1 4 Tryz.underlying23 hi hz0 hz1 hz2 rfl (by decide) _ _ _ rfl (HO.out.alloc _) ⟨wo.heap.size, 0, none⟩ 1 1 [_] rfl rfl (cell_one_new _ _ _) (one_u32 _) HA3y2.out HA4y2.out (le_alloc hsz _) ?_)
        intro vy2 wy2 howny2 hgrowy2 _
        have HX : Hid (wy2.ownsRow w.heap.size 108 1 vy2 (O ++ [(c + 0 + y) % B]).length (limbCells (O ++ [(c + 0 + y) % B])) ∧ Below w.heap.size w wy2) :=
          ⟨limbs_snoc howny2 (by rw [B_def]; omega), (HBe.out.alloc hsz _).grown hgrowy2 (le_alloc hsz _) fun k hk => (HO.out.lt k hk).1⟩
        clear howny2 hgrowy2
        go_wp2_with fail
        go_roundg g
        case measure => omega
        case rel => exact ⟨i + 1, (c + 0 + y) / B, _, by omega, by rw [B_def]; go_num, by go_num, HST.out, HX.out.1, HX.out.2⟩

set_option maxHeartbeats 2000000 in
theorem zdif_any (v1 v2 : Value) (l1 l2 : List Nat) (w : World) (h1 : Mg w v1 l1) (h2 : Mg w v2 l2) (hl1 : l1.length ≤ 1099511627776) (hl2 : l2.length ≤ l1.length) (hle : val l2 ≤ val l1) :
    Calls Tryz.prog 147 #[v1, v2] w (RawPost (val l1 - val l2) l1.length w) := by
  obtain ⟨i0, hi, hx⟩ := Option.map_eq_some_iff.1 info32
  simp only [Prod.mk.injEq] at hx
  obtain ⟨hz0, hz1, hz2⟩ := hx
  have H1 := Lib.hid h1
  have H2 := Lib.hid h2
  obtain ⟨a1, cap1, rfl, _, _, _, _⟩ := h1.form
  obtain ⟨a2, cap2, rfl, _, _, _, _⟩ := h2.form
  clear h1 h2
  have HLE := Lib.hid hle
  clear hle
  go_enter Tryz.func147, Tryz.ntmps147
  go_wp2_with fail
  go_loopg [5, 6, 7, 8] l1.length (fun g s5 s6 s7 s8 wr => ∃ (i b : Nat) (O : List Nat), i + g = l1.length ∧ s6 = .int .u64 b ∧ s7 = .int .i64 i ∧ DifInv l1 l2 i O b ∧ wr.ownsRow w.heap.size 108 1 s5 O.length (limbCells O) ∧ Below w.heap.size w wr)
  case atStart => exact ⟨0, 0, [], by omega, rfl, rfl, DifInv.start _ _, World.ownsRow_nil _ _ _ _, Below.refl _ _⟩
  case round =>
    obtain ⟨i, b, O, hig, rfl, rfl, hI, hown, hbel⟩ := hrel
    have hb1 : b ≤ 1 := hI.2.2.1
    have hOlen : O.length ≤ 1099511627776 := by have := hI.1; omega
    have HOl := Lib.hid hI.1
    have hsz := hbel.size
    obtain ⟨wo, rfl⟩ : ∃ wo : World, wo = wr := ⟨_, rfl⟩
    have HO := Lib.hid hown
    have HBe := Lib.hid hbel
    cases gk with
    | zero =>
      have hn1 : ¬ (i : Int) < (l1.length : Int) := by omega
      have HE := Lib.hid (hI.done (by omega) (by omega) HLE.out)
      clear hown hbel hI
      go_wp2_with fail
      go_ret
      exact ⟨O, _, rfl, HO.out, HE.out.1, HE.out.2, by have := HOl.out; omega, HBe.out⟩
    | succ g =>
      have hst := hI.step H1.out.2 H2.out.2
      have hgetx := getD_lt H1.out.2 i
      have hgety := getD_lt H2.out.2 i
      rw [B_def] at hgetx hgety
      have hways : ∃ x y : Nat, l1[i]?.getD 0 = x ∧ l2[i]?.getD 0 = y ∧ l1[i]? = some x ∧ ((i < l2.length ∧ l2[i]? = some y) ∨ (¬ i < l2.length ∧ y = 0)) := by
        refine ⟨_, _, rfl, rfl, by rw [List.getElem?_eq_getElem (show i < l1.length by omega)]; rfl, ?_⟩
        by_cases c2 : i < l2.length
        · left; exact ⟨c2, by rw [List.getElem?_eq_getElem c2]; rfl⟩
        · right; exact ⟨c2, by rw [List.getElem?_eq_none (by omega)]; rfl⟩
      obtain ⟨x, y, ex, ey, g1, hways⟩ := hways
      rw [ex, ey] at hst
      rw [ex] at hgetx
      rw [ey] at hgety
      clear ex ey hI
      have f1 := H1.out.below hbel
      have f2 := H2.out.below hbel
      obtain ⟨a1', cap1', hv1, _, _, _, hr1⟩ := f1.form
      obtain ⟨a2', cap2', hv2, _, _, _, hr2⟩ := f2.form
      injection hv1 with e1 e2 e3
      injection hv2 with e4 e5 e6
      subst e1 e3 e4 e6
      obtain ⟨p1, off1, rfl, hp1, hcl1⟩ := hr1 (by omega)
      have c1 := hcl1 i x g1
      have qi1 : (i : Int) < (l1.length : Int) := by omega
      have G1 := Lib.hid g1
      clear e2 e5 f1 f2 hown hbel hcl1 g1 hr1
      have hlt : x < b + y ∨ ¬ x < b + y := by omega
      rcases hways with ⟨q2, g2⟩ | ⟨q2, rfl⟩
      · obtain ⟨p2, off2, rfl, hp2, hcl2⟩ := hr2 (by omega)
        have c2 := hcl2 i y g2
        have qi2 : (i : Int) < (l2.length : Int) := by omega
        clear hcl2 hr2 g2
        rcases hlt with hlt | hlt
        · have HST : Hid (DifInv l1 l2 (i + 1) (O ++ [x + B - (b + y)]) 1) := by unfold difD difB at hst; rwa [if_pos hlt, if_pos hlt] at hst
          have hlti : (x : Int) < (b : Int) + (y : Int) := by omega
          clear hst
          have HA3y0 : Hid (O.length + 1 ≤ maxLen) := by show _ ≤ _; unfold maxLen; omega
          have HA4y0 : Hid ((O.length + 1) * 4 ≤ 140737488355328) := by show _ ≤ _; omega
          go_wp2_with (at_builtin; refine wpList_append_own _ rfl _ _ 23 rfl w.heap.size 108 i0 (.int .u32 0) 1 4 Tryz.underlying23 hi hz0 hz1 hz2 rfl (by decide) _ _ _ rfl (HO.out.alloc _) ⟨wo.heap.size, 0, none⟩ 1 1 [_] rfl rfl (cell_one_new _ _ _) (one_u32 _) HA3y0.out HA4y0.out (le_alloc hsz _) ?_)
          intro vy0 wy0 howny0 hgrowy0 _
          have HX : Hid (wy0.ownsRow w.heap.size 108 1 vy0 (O ++ [x + B - (b + y)]).length (limbCells (O ++ [x + B - (b + y)])) ∧ Below w.heap.size w wy0) :=
            ⟨limbs_snoc howny0 (by (try rw [IntKind.wrap_u64]); (try rw [B_def]); omega), (HBe.out.alloc hsz _).grown hgrowy0 (le_alloc hsz _) fun k hk => (HO.out.lt k hk).1⟩
          have hcc1 : wy0.cell? ⟨p1, off1 + i, none⟩ = some (.int .u32 (x : Nat)) := by
            exact (H1.out.below HX.out.2).cell G1.out
          clear howny0 hgrowy0
          go_wp2_with fail
          go_roundg g
          case measure => omega
          case rel => exact ⟨i + 1, 1, _, by omega, rfl, by go_num, HST.out, HX.out.1, HX.out.2⟩
        · have HST : Hid (DifInv l1 l2 (i + 1) (O ++ [x - (b + y)]) 0) := by unfold difD difB at hst; rwa [if_neg hlt, if_neg hlt] at hst
          have hlti : ¬ (x : Int) < (b : Int) + (y : Int) := by omega
          clear hst
          have HA3y1 : Hid (O.length + 1 ≤ maxLen) := by show _ ≤ _; unfold maxLen; omega
          have HA4y1 : Hid ((O.length + 1) * 4 ≤ 140737488355328) := by show _ ≤ _; omega
          go_wp2_with (at_builtin; refine wpList_append_own _ rfl _ _ 23 rfl w.heap.size 108 i0 (.int .u32 0) 1 4 Tryz.underlying23 hi hz0 hz1 hz2 rfl (by decide) _ _ _ rfl (HO.out.alloc _) ⟨wo.heap.size, 0, none⟩ 1 1 [_] rfl rfl (cell_one_new _ _ _) (one_u32 _) HA3y1.out HA4y1.out (le_alloc hsz _) ?_)
          intro vy1 wy1 howny1 hgrowy1 _
          have HX : Hid (wy1.ownsRow w.heap.size 108 1 vy1 (O ++ [x - (b + y)]).length (limbCells (O ++ [x - (b + y)])) ∧ Below w.heap.size w wy1) :=
            ⟨limbs_snoc howny1 (by (try rw [IntKind.wrap_u64]); (try rw [B_def]); omega), (HBe.out.alloc hsz _).grown hgrowy1 (le_alloc hsz _) fun k hk => (HO.out.lt k hk).1⟩
          have hcc1 : wy1.cell? ⟨p1, off1 + i, none⟩ = some (.int .u32 (x : Nat)) := by
            exact (H1.out.below HX.out.2).cell G1.out
          clear howny1 hgrowy1
          go_wp2_with fail
          go_roundg g
          case measure => omega
          case rel => exact ⟨i + 1, 0, _, by omega, rfl, by go_num, HST.out, HX.out.1, HX.out.2⟩
      · have qi2 : ¬ (i : Int) < (l2.length : Int) := by omega
        clear hr2
        rcases hlt with hlt | hlt
        · have HST : Hid (DifInv l1 l2 (i + 1) (O ++ [x + B - (b + 0)]) 1) := by unfold difD difB at hst; rwa [if_pos hlt, if_pos hlt] at hst
          have hlti : (x : Int) < (b : Int) := by omega
          clear hst
          have HA3y2 : Hid (O.length + 1 ≤ maxLen) := by show _ ≤ _; unfold maxLen; omega
          have HA4y2 : Hid ((O.length + 1) * 4 ≤ 140737488355328) := by show _ ≤ _; omega
          go_wp2_with (at_builtin; refine wpList_append_own _ rfl _ _ 23 rfl w.heap.size 108 i0 (.int .u32 0) 1 4 Tryz.underlying23 hi hz0 hz1 hz2 rfl (by decide) _ _ _ rfl (HO.out.alloc _) ⟨wo.heap.size, 0, none⟩ 1 1 [_] rfl rfl (cell_one_new _ _ _) (one_u32 _) HA3y2.out HA4y2.out (le_alloc hsz _) ?_)
          intro vy2 wy2 howny2 hgrowy2 _
          have HX : Hid (wy2.ownsRow w.heap.size 108 1 vy2 (O ++ [x + B - (b + 0)]).length (limbCells (O ++ [x + B - (b + 0)])) ∧ Below w.heap.size w wy2) :=
            ⟨limbs_snoc howny2 (by (try rw [IntKind.wrap_u64]); (try rw [B_def]); omega), (HBe.out.alloc hsz _).grown hgrowy2 (le_alloc hsz _) fun k hk => (HO.out.lt k hk).1⟩
          have hcc1 : wy2.cell? ⟨p1, off1 + i, none⟩ = some (.int .u32 (x : Nat)) := by
            exact (H1.out.below HX.out.2).cell G1.out
          clear howny2 hgrowy2
          go_wp2_with fail
          go_roundg g
          case measure => omega
          case rel => exact ⟨i + 1, 1, _, by omega, rfl, by go_num, HST.out, HX.out.1, HX.out.2⟩
        · have HST : Hid (DifInv l1 l2 (i + 1) (O ++ [x - (b + 0)]) 0) := by unfold difD difB at hst; rwa [if_neg hlt, if_neg hlt] at hst
          have hlti : ¬ (x : Int) < (b : Int) := by omega
          clear hst
          have HA3y3 : Hid (O.length + 1 ≤ maxLen) := by show _ ≤ _; unfold maxLen; omega
          have HA4y3 : Hid ((O.length + 1) * 4 ≤ 140737488355328) := by show _ ≤ _; omega
          go_wp2_with (at_builtin; refine wpList_append_own _ rfl _ _ 23 rfl w.heap.size 108 i0 (.int .u32 0) 1 4 Tryz.underlying23 hi hz0 hz1 hz2 rfl (by decide) _ _ _ rfl (HO.out.alloc _) ⟨wo.heap.size, 0, none⟩ 1 1 [_] rfl rfl (cell_one_new _ _ _) (one_u32 _) HA3y3.out HA4y3.out (le_alloc hsz _) ?_)
          intro vy3 wy3 howny3 hgrowy3 _
          have HX : Hid (wy3.ownsRow w.heap.size 108 1 vy3 (O ++ [x - (b + 0)]).length (limbCells (O ++ [x - (b + 0)])) ∧ Below w.heap.size w wy3) :=
            ⟨limbs_snoc howny3 (by (try rw [IntKind.wrap_u64]); (try rw [B_def]); omega), (HBe.out.alloc hsz _).grown hgrowy3 (le_alloc hsz _) fun k hk => (HO.out.lt k hk).1⟩
          have hcc1 : wy3.cell? ⟨p1, off1 + i, none⟩ = some (.int .u32 (x : Nat)) := by
            exact (H1.out.below HX.out.2).cell G1.out
          clear howny3 hgrowy3
          go_wp2_with fail
          go_roundg g
          case measure => omega
          case rel => exact ⟨i + 1, 0, _, by omega, rfl, by go_num, HST.out, HX.out.1, HX.out.2⟩
end Go.Proofs.YtpiflllcjgpkhaaGreatDoor

namespace Go.Proofs.YtpiflllcjgpkhaaGreatDoor.Limb
/-! ### Doubling -/
def DblInv (l : List Nat) (c0 : Nat) (i : Nat) (O : List Nat) (c : Nat) : Prop := O.length = i ∧ Lm O ∧ c ≤ 1 ∧ val O + B ^ i * c = 2 * val (l.take i) + c0
theorem DblInv.start (l : List Nat) {c0 : Nat} (h : c0 ≤ 1) : DblInv l c0 0 [] c0 := ⟨rfl, Lm.nil, h, by simp [val]⟩
theorem DblInv.step {l : List Nat} {c0 i : Nat} {O : List Nat} {c x : Nat} (hl : Lm l) (h : DblInv l c0 i O c) (hx : l[i]? = some x) :
    DblInv l c0 (i + 1) (O ++ [(2 * x) % B + c]) (x / 2147483648) := by
  obtain ⟨a1, a2, a3, a4⟩ := h
  have b1 := hl.get hx
  refine ⟨by simp [a1], lm_snoc a2 (by rw [B_def] at *; omega), by rw [B_def] at b1; omega, ?_⟩
  rw [val_snoc, val_take_succ, a1, hx, Option.getD_some]
  have : B ^ i * ((2 * x) % B + c) + B ^ (i + 1) * (x / 2147483648) = B ^ i * (2 * x + c) := by
    rw [Nat.pow_succ, Nat.mul_assoc, ← Nat.mul_add]
    congr 1
    rw [B_def] at *; omega
  rw [Nat.add_assoc, this, Nat.mul_add, Nat.mul_add, Nat.mul_left_comm (B ^ i) 2 x]
  omega
theorem DblInv.done {l : List Nat} {c0 i : Nat} {O : List Nat} {c : Nat} (h : DblInv l c0 i O c) (h1 : l.length ≤ i) : Lm (O ++ [c]) ∧ val (O ++ [c]) = 2 * val l + c0 := by
  obtain ⟨a1, a2, a3, a4⟩ := h
  refine ⟨lm_snoc a2 (by rw [B_def]; omega), ?_⟩
  rw [val_snoc, a1, a4, List.take_of_length_le h1]
end Go.Proofs.YtpiflllcjgpkhaaGreatDoor.Limb
namespace Go.Proofs.YtpiflllcjgpkhaaGreatDoor
open Go.RowKit Limb
theorem or_dbl (x c : Nat) (hc : c ≤ 1) : bits .or .u32 ((x : Int) * 2 % 4294967296) (c : Int) = (((2 * x) % B + c : Nat) : Int) := by
  rw [u32_or _ _ (by omega) (by omega) (by omega) (by omega)]
  have e1 : ((x : Int) * 2 % 4294967296).toNat = (2 * x) % B := by rw [B_def]; omega
  rw [e1, Int.toNat_natCast, nat_join 1 _ _ (by rw [B_def]; omega) (by omega)]
set_option maxHeartbeats 2000000 in
theorem zdouble_any (v1 : Value) (l : List Nat) (c0 : Nat) (w : World) (h1 : Mg w v1 l) (hl1 : l.length ≤ 1099511627776) (hc0 : c0 ≤ 1) :
    Calls Tryz.prog 157 #[v1, .int .u32 c0] w (RawPost (2 * val l + c0) (l.length + 1) w) := by
  obtain ⟨i0, hi, hx⟩ := Option.map_eq_some_iff.1 info32
  simp only [Prod.mk.injEq] at hx
  obtain ⟨hz0, hz1, hz2⟩ := hx
  have H1 := Lib.hid h1
  obtain ⟨a1, cap1, rfl, _, _, _, _⟩ := h1.form
  clear h1
  go_enter Tryz.func157, Tryz.ntmps157
  go_wp2_with fail
  go_loopg [1, 5, 7, 10] l.length (fun g s1 s5 s7 s10 wr => ∃ (i c : Nat) (O : List Nat), i + g = l.length ∧ s1 = .int .u32 c ∧ s10 = .int .i64 i ∧ DblInv l c0 i O c ∧ wr.ownsRow w.heap.size 108 1 s5 O.length (limbCells O) ∧ Below w.heap.size w wr)
  case atStart => exact ⟨0, c0, [], by omega, rfl, rfl, DblInv.start _ hc0, World.ownsRow_nil _ _ _ _, Below.refl _ _⟩
  case round =>
    obtain ⟨i, c, O, hig, rfl, rfl, hI, hown, hbel⟩ := hrel
    have hc1 : c ≤ 1 := hI.2.2.1
    have hOlen : O.length ≤ 1099511627776 := by have := hI.1; omega
    have HOl := Lib.hid hI.1
    have hsz := hbel.size
    obtain ⟨wo, rfl⟩ : ∃ wo : World, wo = wr := ⟨_, rfl⟩
    have HO := Lib.hid hown
    have HBe := Lib.hid hbel
    cases gk with
    | zero =>
      have hn1 : ¬ (i : Int) < (l.length : Int) := by omega
      have HE := Lib.hid (hI.done (by omega))
      clear hown hbel hI
      have HA3x : Hid (O.length + 1 ≤ maxLen) := by show _ ≤ _; unfold maxLen; omega
      have HA4x : Hid ((O.length + 1) * 4 ≤ 140737488355328) := by show _ ≤ _; omega
      go_wp2_with (at_builtin; refine wpList_append_own _ rfl _ _ 23 rfl w.heap.size 108 i0 (.int .u32 0) 1 4 Tryz.underlying23 hi hz0 hz1 hz2 rfl (by decide) _ _ _ rfl (HO.out.alloc _) ⟨wo.heap.size, 0, none⟩ 1 1 [_] rfl rfl (cell_one_new _ _ _) (one_u32 _) HA3x.out HA4x.out (le_alloc hsz _) ?_)
      intro vx wx hownx hgrowx _
      have HX : Hid (wx.ownsRow w.heap.size 108 1 vx (O ++ [c]).length (limbCells (O ++ [c])) ∧ Below w.heap.size w wx) :=
        ⟨limbs_snoc hownx rfl, (HBe.out.alloc hsz _).grown hgrowx (le_alloc hsz _) fun k hk => (HO.out.lt k hk).1⟩
      clear hownx hgrowx
      go_wp2_with fail
      go_ret
      exact ⟨O ++ [c], _, rfl, HX.out.1, HE.out.1, HE.out.2, by have := HOl.out; rw [List.length_append, List.length_singleton]; omega, HX.out.2⟩
    | succ g =>
      obtain ⟨x, hx⟩ : ∃ x, l[i]? = some x := ⟨_, List.getElem?_eq_getElem (by omega)⟩
      have HST := Lib.hid (hI.step H1.out.2 hx)
      have hxB := H1.out.2.get hx
      rw [B_def] at hxB
      have f1 := H1.out.below hbel
      obtain ⟨a1', cap1', hv1, _, _, _, hr1⟩ := f1.form
      injection hv1 with e1 e2 e3
      subst e1 e3
      obtain ⟨p1, off1, rfl, hp1, hcl1⟩ := hr1 (by omega)
      have c1 := hcl1 i x hx
      have qi1 : (i : Int) < (l.length : Int) := by omega
      clear e2 f1 hown hbel hcl1 hr1 hx hI
      have HA3y : Hid (O.length + 1 ≤ maxLen) := by show _ ≤ _; unfold maxLen; omega
      have HA4y : Hid ((O.length + 1) * 4 ≤ 140737488355328) := by show _ ≤ _; omega
      go_wp2_with (at_builtin; refine wpList_append_own _ rfl _ _ 23 rfl w.heap.size 108 i0 (.int .u32 0) 1 4 Tryz.underlying23 hi hz0 hz1 hz2 rfl (by decide) _ _ _ rfl (HO.out.alloc _) ⟨wo.heap.size, 0, none⟩ 1 1 [_] rfl rfl (cell_one_new _ _ _) (one_u32 _) HA3y.out HA4y.out (le_alloc hsz _) ?_)
      intro vy wy howny hgrowy _
      have HX : Hid (wy.ownsRow w.heap.size 108 1 vy (O ++ [(2 * x) % B + c]).length (limbCells (O ++ [(2 * x) % B + c])) ∧ Below w.heap.size w wy) :=
        ⟨limbs_snoc howny (or_dbl x c hc1), (HBe.out.alloc hsz _).grown hgrowy (le_alloc hsz _) fun k hk => (HO.out.lt k hk).1⟩
      clear howny hgrowy
      go_wp2_with fail
      go_roundg g
      case measure => omega
      case rel => exact ⟨i + 1, x / 2147483648, _, by omega, by go_num, by go_num, HST.out, HX.out.1, HX.out.2⟩

theorem or_low (u x : Nat) (hu : u < 4294967296) (hx : x < 4294967296) : bits .or .u64 (u : Int) ((x : Int) * 4294967296) = ((u + B * x : Nat) : Int) := by
  rw [u64_or _ _ (by omega) (by omega) (by omega) (by omega)]
  have e1 : ((x : Int) * 4294967296).toNat = B * x := by rw [B_def]; omega
  rw [e1, Int.toNat_natCast, Nat.or_comm, nat_join 32 _ _ (by rw [B_def]; omega) (by omega), Nat.add_comm]
theorem or_zero (x : Nat) (hx : x < 4294967296) : bits .or .u64 0 (x : Int) = (x : Int) := by
  rw [u64_or _ _ (by omega) (by omega) (by omega) (by omega)]
  simp
set_option maxHeartbeats 2000000 in
/-- The lowest 64 bits, of at most two limbs. -/
theorem zlow_any (v1 : Value) (l : List Nat) (w : World) (h1 : Mg w v1 l) (hl1 : l.length ≤ 2) :
    Calls Tryz.prog 156 #[v1] w fun e w' => e = .returned (.int .u64 (val l : Nat)) ∧ w = w' := by
  have HL := Lib.hid h1.2
  obtain ⟨a1, cap1, rfl, _, _, _, hr⟩ := h1.form
  have HR := Lib.hid hr
  clear hr h1
  go_enter Tryz.func156, Tryz.ntmps156
  go_wp2_with fail
  go_loopg [3, 4] l.length (fun g s3 s4 wr => ∃ (i u : Nat), i + g = l.length ∧ s3 = .int .u64 u ∧ s4 = .int .i64 i ∧ u = val (l.take i) ∧ w = wr)
  case atStart => exact ⟨0, 0, by omega, rfl, rfl, by simp [val], rfl⟩
  case round =>
    obtain ⟨i, u, hig, rfl, rfl, hu, rfl⟩ := hrel
    have HU := Lib.hid hu
    clear hu
    cases gk with
    | zero =>
      have hn1 : ¬ (i : Int) < (l.length : Int) := by omega
      have HE : Hid (u = val l) := by show u = val l; rw [HU.out, List.take_of_length_le (by omega)]
      go_wp2_with fail
      go_ret
      exact ⟨ret_int' (by rw [HE.out]), rfl⟩
    | succ g =>
      obtain ⟨x, hx⟩ : ∃ x, l[i]? = some x := ⟨_, List.getElem?_eq_getElem (by omega)⟩
      have hxB := HL.out.get hx
      rw [B_def] at hxB
      obtain ⟨b, off, rfl, hb, hc⟩ := HR.out (by omega)
      have c1 := hc i x hx
      have hqi : (i : Int) < (l.length : Int) := by omega
      have HST : Hid (u + B ^ i * x = val (l.take (i + 1))) := by show _ = _; rw [val_take_succ, hx, HU.out]; rfl
      clear hc hx
      rcases (show i = 0 ∨ i = 1 by omega) with h0 | h0
      · subst h0
        obtain rfl : u = 0 := by have := HU.out; simpa [val] using this
        simp only [Nat.add_zero] at c1
        go_wp2_with fail
        go_roundg g
        case measure => omega
        case rel => exact ⟨1, x, by omega, by rw [or_zero x hxB], rfl, by have := HST.out; simpa using this, rfl⟩
      · subst h0
        have hu : u < 4294967296 := by
          have := HU.out
          have h1 := val_lt (HL.out.take 1)
          rw [← this, List.length_take, B_def] at h1
          have : (4294967296 : Nat) ^ min 1 l.length ≤ 4294967296 := by
            rw [Nat.min_eq_left (by omega)]; decide
          omega
        go_wp2_with fail
        go_roundg g
        case measure => omega
        case rel => exact ⟨2, u + B * x, by omega, by rw [or_low u x hu hxB], rfl, by have := HST.out; simpa using this, rfl⟩
end Go.Proofs.YtpiflllcjgpkhaaGreatDoor

namespace Go.Proofs.YtpiflllcjgpkhaaGreatDoor
open Go.RowKit Limb
theorem ca_drew {w : World} {a : Addr} : w.drew.cell? a = w.cell? a := rfl
theorem fa_drew {w : World} {a : Addr} : w.drew.frozen? a = w.frozen? a := rfl
theorem ca_past {w : World} {o : Obj} {b i : Nat} (h : b < w.heap.size) : (w.alloc o).cell? ⟨b, i, none⟩ = w.cell? ⟨b, i, none⟩ := World.cell?_of_block (Below.heap_alloc w o b h)
theorem fa_past {w : World} {o : Obj} {b i : Nat} (h : b < w.heap.size) : (w.alloc o).frozen? ⟨b, i, none⟩ = w.frozen? ⟨b, i, none⟩ := World.frozen?_of_block (Below.heap_alloc w o b h)
theorem ca_here {w : World} {c : Array Value} {t : TypeId} {b i : Nat} (h : b = w.heap.size) : (w.alloc (.cells c t)).cell? ⟨b, i, none⟩ = c[i]? := by subst h; exact World.cell?_alloc_new _ _ _ _
theorem fa_here {w : World} {c : Array Value} {t : TypeId} {b i : Nat} (h : b = w.heap.size) : (w.alloc (.cells c t)).frozen? ⟨b, i, none⟩ = false := by
  subst h
  unfold World.frozen?
  rw [show (w.alloc (.cells c t)).heap[(⟨w.heap.size, i, none⟩ : Addr).block]? = some (.cells c t) from heap_alloc_new w _]
  simp
theorem cs_other {w : World} {p : Addr} {u : Value} {b i : Nat} (h : b ≠ p.block) : (w.setCell p u).cell? ⟨b, i, none⟩ = w.cell? ⟨b, i, none⟩ := World.cell?_of_block (Below.heap_setCell w p u b h)
theorem fs_other {w : World} {p : Addr} {u : Value} {b i : Nat} (h : b ≠ p.block) : (w.setCell p u).frozen? ⟨b, i, none⟩ = w.frozen? ⟨b, i, none⟩ := World.frozen?_of_block (Below.heap_setCell w p u b h)
theorem add_same {s : Bool} {x y : Nat} {z z' : Int} (hz : z = if s then -(x : Int) else (x : Int)) (hz' : z' = if s then -(y : Int) else (y : Int)) : z + z' = if s then -((x + y : Nat) : Int) else ((x + y : Nat) : Int) := by
  cases s <;> simp at * <;> omega
theorem add_ge {s s' : Bool} {x y : Nat} {z z' : Int} (hs : s ≠ s') (hz : z = if s then -(x : Int) else (x : Int)) (hz' : z' = if s' then -(y : Int) else (y : Int)) (h : y ≤ x) : z + z' = if s then -((x - y : Nat) : Int) else ((x - y : Nat) : Int) := by
  cases s <;> cases s' <;> simp at * <;> omega
theorem add_lt {s s' : Bool} {x y : Nat} {z z' : Int} (hs : s ≠ s') (hz : z = if s then -(x : Int) else (x : Int)) (hz' : z' = if s' then -(y : Int) else (y : Int)) (h : x ≤ y) : z + z' = if s' then -((y - x : Nat) : Int) else ((y - x : Nat) : Int) := by
  cases s <;> cases s' <;> simp at * <;> omega
theorem digs_le_len {l : List Nat} {k : Nat} (h : l.length ≤ k) (hl : Lm l) : (digs (val l)).length ≤ k := Nat.le_trans (digs_length_le (val_lt hl)) h
set_option maxHeartbeats 4000000 in
theorem zadd_any (s : Bool) (a : Option Addr) (n cap : Nat) (z : Int) (k : Nat) (s' : Bool) (a' : Option Addr) (n' cap' : Nat) (z' : Int) (k' : Nat) (w : World) (h : IsZ w s a n cap z k) (h' : IsZ w s' a' n' cap' z' k') (hk : k ≤ 1073741824) (hk' : k' ≤ 1073741824) :
    Calls Tryz.prog 126 #[.agg #[.bool s, .slice a n cap], .agg #[.bool s', .slice a' n' cap']] w (ZPost (z + z') w) := by
  obtain ⟨l, hl, hm, hn, hz⟩ := h
  obtain ⟨l', hl', hm', hn', hz'⟩ := h'
  have hb0 := (((Below.refl w.heap.size w).alloc (Nat.le_refl _) (.cells #[.bool s, .slice a n cap] 25)).alloc (by first | omega | (simp; done) | (simp; omega)) (.cells #[.bool s', .slice a' n' cap'] 25)).alloc (by first | omega | (simp; done) | (simp; omega)) (.cells #[.bool false, .slice none 0 0] 25)
  have HM := Lib.hid (fun W (hb : Below w.heap.size w W) => ztrim_any _ _ W (hm.below hb) (by omega))
  have HM' := Lib.hid (fun W (hb : Below w.heap.size w W) => ztrim_any _ _ W (hm'.below hb) (by omega))
  have HD := Lib.hid (digs_le_len (k := 1073741824) (by omega) hm.2)
  have HD' := Lib.hid (digs_le_len (k := 1073741824) (by omega) hm'.2)
  have HB0 := Lib.hid hb0
  have HZ := Lib.hid hz
  have HZ' := Lib.hid hz'
  clear hm hm' hb0 hz hz' hl hl'
  obtain ⟨x, hx⟩ : ∃ x, val l = x := ⟨_, rfl⟩
  obtain ⟨y, hy⟩ : ∃ y, val l' = y := ⟨_, rfl⟩
  rw [hx] at HM HD HZ
  rw [hy] at HM' HD' HZ'
  clear hx hy
  go_enter Tryz.func126, Tryz.ntmps126
  go_wp2_with fail
  have tok1 : True := trivial
  go_region_held3 (fun W => W.cell? ⟨w.heap.size, 1, none⟩ = some (.slice a n cap) ∧ W.cell? ⟨w.heap.size + 1, 1, none⟩ = some (.slice a' n' cap')) (((try dsimp only); (repeat' apply And.intro) <;> (first | assumption | go_keep | (go_split_ands; (repeat (first | rw [cs_other (by first | omega | (simp; done) | (simp; omega))] | rw [ca_past (by first | omega | (simp; done) | (simp; omega))] | rw [ca_drew])); assumption))))
    (first | (go_at_call 142; have _t := tok1; clear tok1; refine (HM.out _ ?_).mono ?_; exact HB0.out.drew; rintro e w1 ⟨v1, rfl, hown1, hb1⟩; obtain ⟨a1, cap1, hv1, _⟩ := (Mg.of_owns hown1 (lm_digs _)).form; subst hv1; have HM1 := Lib.hid (Mg.of_owns hown1 (lm_digs _)); have HFr1 := Lib.hid (Fr.of_owns hown1); clear hown1; obtain ⟨hc1, hf1⟩ := bcell hb1; have hs1 := hb1.size; (try simp at hs1); have HB1 := Lib.hid (below_call HB0.out.drew hb1 (by first | omega | (simp; done) | (simp; omega))); have dc1_0 : w1.cell? ⟨w.heap.size, 1, none⟩ = some (.slice a n cap) := (by ((repeat (first | rw [hc1 _ _ (by first | omega | (simp; done) | (simp; omega))] | rw [ca_drew] | rw [ca_past (by first | omega | (simp; done) | (simp; omega))] | rw [ca_here (by first | omega | (simp; done) | (simp; omega))] | rw [cs_other (by first | omega | (simp; done) | (simp; omega))])) <;> (first | rfl | assumption | (simp; done)))); have dc1_1 : w1.cell? ⟨w.heap.size + 1, 1, none⟩ = some (.slice a' n' cap') := (by ((repeat (first | rw [hc1 _ _ (by first | omega | (simp; done) | (simp; omega))] | rw [ca_drew] | rw [ca_past (by first | omega | (simp; done) | (simp; omega))] | rw [ca_here (by first | omega | (simp; done) | (simp; omega))] | rw [cs_other (by first | omega | (simp; done) | (simp; omega))])) <;> (first | rfl | assumption | (simp; done)))); have dc1_2 : w1.cell? ⟨w.heap.size, 0, none⟩ = some (.bool s) := (by ((repeat (first | rw [hc1 _ _ (by first | omega | (simp; done) | (simp; omega))] | rw [ca_drew] | rw [ca_past (by first | omega | (simp; done) | (simp; omega))] | rw [ca_here (by first | omega | (simp; done) | (simp; omega))] | rw [cs_other (by first | omega | (simp; done) | (simp; omega))])) <;> (first | rfl | assumption | (simp; done)))); have dc1_3 : w1.cell? ⟨w.heap.size + 1, 0, none⟩ = some (.bool s') := (by ((repeat (first | rw [hc1 _ _ (by first | omega | (simp; done) | (simp; omega))] | rw [ca_drew] | rw [ca_past (by first | omega | (simp; done) | (simp; omega))] | rw [ca_here (by first | omega | (simp; done) | (simp; omega))] | rw [cs_other (by first | omega | (simp; done) | (simp; omega))])) <;> (first | rfl | assumption | (simp; done)))); have dc1_4 : w1.cell? ⟨w.heap.size + 1 + 1, 0, none⟩ = some (.bool false) := (by ((repeat (first | rw [hc1 _ _ (by first | omega | (simp; done) | (simp; omega))] | rw [ca_drew] | rw [ca_past (by first | omega | (simp; done) | (simp; omega))] | rw [ca_here (by first | omega | (simp; done) | (simp; omega))] | rw [cs_other (by first | omega | (simp; done) | (simp; omega))])) <;> (first | rfl | assumption | (simp; done)))); have dc1_5 : w1.cell? ⟨w.heap.size + 1 + 1, 1, none⟩ = some (.slice none 0 0) := (by ((repeat (first | rw [hc1 _ _ (by first | omega | (simp; done) | (simp; omega))] | rw [ca_drew] | rw [ca_past (by first | omega | (simp; done) | (simp; omega))] | rw [ca_here (by first | omega | (simp; done) | (simp; omega))] | rw [cs_other (by first | omega | (simp; done) | (simp; omega))])) <;> (first | rfl | assumption | (simp; done)))); have df1_0 : w1.frozen? ⟨w.heap.size + 1 + 1, 0, none⟩ = false := (by ((repeat (first | rw [hf1 _ _ (by first | omega | (simp; done) | (simp; omega))] | rw [fa_drew] | rw [fa_past (by first | omega | (simp; done) | (simp; omega))] | rw [fa_here (by first | omega | (simp; done) | (simp; omega))] | rw [fs_other (by first | omega | (simp; done) | (simp; omega))])) <;> (first | rfl | assumption | (simp; done)))); have df1_1 : w1.frozen? ⟨w.heap.size + 1 + 1, 1, none⟩ = false := (by ((repeat (first | rw [hf1 _ _ (by first | omega | (simp; done) | (simp; omega))] | rw [fa_drew] | rw [fa_past (by first | omega | (simp; done) | (simp; omega))] | rw [fa_here (by first | omega | (simp; done) | (simp; omega))] | rw [fs_other (by first | omega | (simp; done) | (simp; omega))])) <;> (first | rfl | assumption | (simp; done)))); clear hc1 hf1) | (go_at_call 142; refine (HM'.out _ ?_).mono ?_; exact HB1.out; rintro e w2 ⟨v2, rfl, hown2, hb2⟩; obtain ⟨a2, cap2, hv2, _⟩ := (Mg.of_owns hown2 (lm_digs _)).form; subst hv2; have HM2 := Lib.hid (Mg.of_owns hown2 (lm_digs _)); have HFr2 := Lib.hid (Fr.of_owns hown2); clear hown2; obtain ⟨hc2, hf2⟩ := bcell hb2; have hs2 := hb2.size; (try simp at hs2); have HB2 := Lib.hid (below_call HB1.out hb2 (by first | omega | (simp; done) | (simp; omega))); have dc2_0 : w2.cell? ⟨w.heap.size, 1, none⟩ = some (.slice a n cap) := (by ((repeat (first | rw [hc2 _ _ (by first | omega | (simp; done) | (simp; omega))] | rw [ca_drew] | rw [ca_past (by first | omega | (simp; done) | (simp; omega))] | rw [ca_here (by first | omega | (simp; done) | (simp; omega))] | rw [cs_other (by first | omega | (simp; done) | (simp; omega))])) <;> (first | rfl | assumption | (simp; done)))); have dc2_1 : w2.cell? ⟨w.heap.size + 1, 1, none⟩ = some (.slice a' n' cap') := (by ((repeat (first | rw [hc2 _ _ (by first | omega | (simp; done) | (simp; omega))] | rw [ca_drew] | rw [ca_past (by first | omega | (simp; done) | (simp; omega))] | rw [ca_here (by first | omega | (simp; done) | (simp; omega))] | rw [cs_other (by first | omega | (simp; done) | (simp; omega))])) <;> (first | rfl | assumption | (simp; done)))); have dc2_2 : w2.cell? ⟨w.heap.size, 0, none⟩ = some (.bool s) := (by ((repeat (first | rw [hc2 _ _ (by first | omega | (simp; done) | (simp; omega))] | rw [ca_drew] | rw [ca_past (by first | omega | (simp; done) | (simp; omega))] | rw [ca_here (by first | omega | (simp; done) | (simp; omega))] | rw [cs_other (by first | omega | (simp; done) | (simp; omega))])) <;> (first | rfl | assumption | (simp; done)))); have dc2_3 : w2.cell? ⟨w.heap.size + 1, 0, none⟩ = some (.bool s') := (by ((repeat (first | rw [hc2 _ _ (by first | omega | (simp; done) | (simp; omega))] | rw [ca_drew] | rw [ca_past (by first | omega | (simp; done) | (simp; omega))] | rw [ca_here (by first | omega | (simp; done) | (simp; omega))] | rw [cs_other (by first | omega | (simp; done) | (simp; omega))])) <;> (first | rfl | assumption | (simp; done)))); have dc2_4 : w2.cell? ⟨w.heap.size + 1 + 1, 0, none⟩ = some (.bool false) := (by ((repeat (first | rw [hc2 _ _ (by first | omega | (simp; done) | (simp; omega))] | rw [ca_drew] | rw [ca_past (by first | omega | (simp; done) | (simp; omega))] | rw [ca_here (by first | omega | (simp; done) | (simp; omega))] | rw [cs_other (by first | omega | (simp; done) | (simp; omega))])) <;> (first | rfl | assumption | (simp; done)))); have dc2_5 : w2.cell? ⟨w.heap.size + 1 + 1, 1, none⟩ = some (.slice none 0 0) := (by ((repeat (first | rw [hc2 _ _ (by first | omega | (simp; done) | (simp; omega))] | rw [ca_drew] | rw [ca_past (by first | omega | (simp; done) | (simp; omega))] | rw [ca_here (by first | omega | (simp; done) | (simp; omega))] | rw [cs_other (by first | omega | (simp; done) | (simp; omega))])) <;> (first | rfl | assumption | (simp; done)))); have df2_0 : w2.frozen? ⟨w.heap.size + 1 + 1, 0, none⟩ = false := (by ((repeat (first | rw [hf2 _ _ (by first | omega | (simp; done) | (simp; omega))] | rw [fa_drew] | rw [fa_past (by first | omega | (simp; done) | (simp; omega))] | rw [fa_here (by first | omega | (simp; done) | (simp; omega))] | rw [fs_other (by first | omega | (simp; done) | (simp; omega))])) <;> (first | rfl | assumption | (simp; done)))); have df2_1 : w2.frozen? ⟨w.heap.size + 1 + 1, 1, none⟩ = false := (by ((repeat (first | rw [hf2 _ _ (by first | omega | (simp; done) | (simp; omega))] | rw [fa_drew] | rw [fa_past (by first | omega | (simp; done) | (simp; omega))] | rw [fa_here (by first | omega | (simp; done) | (simp; omega))] | rw [fs_other (by first | omega | (simp; done) | (simp; omega))])) <;> (first | rfl | assumption | (simp; done)))); clear hc2 hf2))
  have HM1' := Lib.hid (HM1.out.below hb2)
  have HbN1 := Lib.hid hb1
  have HbN2 := Lib.hid hb2
  clear hb1 hb2
  by_cases hs : s = s'
  · subst hs
    have hzz := add_same HZ.out HZ'.out
    have HS := Lib.hid (fun W (hb : Below w2.heap.size w2 W) => zsum_any _ _ _ _ W (HM1'.out.below hb) (HM2.out.below hb) (by have := HD.out; omega) (by have := HD'.out; omega))
    rw [val_digs, val_digs] at HS
    have HMK := Lib.hid (fun (W : World) (v : Value) (L : List Nat) (h : Mg W v L) (hv : val L = x + y) (hle : L.length ≤ 1099511627776) => zmake_any s v L W (z + z') h hle (by rw [hv]; exact hzz))
    clear hzz
    have hlen3 : max (digs x).length (digs y).length + 1 ≤ 1099511627776 := by have := HD.out; have := HD'.out; omega
    go_wp2_with fail
    have tok3 : True := trivial
    go_region_held3 (fun W => W.cell? ⟨w.heap.size, 0, none⟩ = some (.bool s)) (((try dsimp only); (repeat' apply And.intro) <;> (first | assumption | go_keep | (go_split_ands; (repeat (first | rw [cs_other (by first | omega | (simp; done) | (simp; omega))] | rw [ca_past (by first | omega | (simp; done) | (simp; omega))] | rw [ca_drew])); assumption))))
      (first | (go_at_call 146; have _t := tok3; clear tok3; refine (HS.out _ ?_).mono ?_; exact (Below.refl _ _).drew; rintro e w3 ⟨L3, v3, rfl, hown3, hlm3, hval3, hlen3, hb3⟩; obtain ⟨a3, cap3, hv3, _⟩ := (Mg.of_owns hown3 hlm3).form; subst hv3; have HM3 := Lib.hid (Mg.of_owns hown3 hlm3); have HV3 := Lib.hid hval3; clear hown3 hlm3 hval3; obtain ⟨hc3, hf3⟩ := bcell hb3; have hs3 := hb3.size; (try simp at hs3); have HB3 := Lib.hid (below_call HB2.out.drew hb3 (by first | omega | (simp; done) | (simp; omega))); have dc3_0 : w3.cell? ⟨w.heap.size, 0, none⟩ = some (.bool s) := (by ((repeat (first | rw [hc3 _ _ (by first | omega | (simp; done) | (simp; omega))] | rw [ca_drew] | rw [ca_past (by first | omega | (simp; done) | (simp; omega))] | rw [ca_here (by first | omega | (simp; done) | (simp; omega))] | rw [cs_other (by first | omega | (simp; done) | (simp; omega))])) <;> (first | rfl | assumption | (simp; done)))); have dc3_1 : w3.cell? ⟨w.heap.size + 1 + 1, 0, none⟩ = some (.bool false) := (by ((repeat (first | rw [hc3 _ _ (by first | omega | (simp; done) | (simp; omega))] | rw [ca_drew] | rw [ca_past (by first | omega | (simp; done) | (simp; omega))] | rw [ca_here (by first | omega | (simp; done) | (simp; omega))] | rw [cs_other (by first | omega | (simp; done) | (simp; omega))])) <;> (first | rfl | assumption | (simp; done)))); have dc3_2 : w3.cell? ⟨w.heap.size + 1 + 1, 1, none⟩ = some (.slice none 0 0) := (by ((repeat (first | rw [hc3 _ _ (by first | omega | (simp; done) | (simp; omega))] | rw [ca_drew] | rw [ca_past (by first | omega | (simp; done) | (simp; omega))] | rw [ca_here (by first | omega | (simp; done) | (simp; omega))] | rw [cs_other (by first | omega | (simp; done) | (simp; omega))])) <;> (first | rfl | assumption | (simp; done)))); have df3_0 : w3.frozen? ⟨w.heap.size + 1 + 1, 0, none⟩ = false := (by ((repeat (first | rw [hf3 _ _ (by first | omega | (simp; done) | (simp; omega))] | rw [fa_drew] | rw [fa_past (by first | omega | (simp; done) | (simp; omega))] | rw [fa_here (by first | omega | (simp; done) | (simp; omega))] | rw [fs_other (by first | omega | (simp; done) | (simp; omega))])) <;> (first | rfl | assumption | (simp; done)))); have df3_1 : w3.frozen? ⟨w.heap.size + 1 + 1, 1, none⟩ = false := (by ((repeat (first | rw [hf3 _ _ (by first | omega | (simp; done) | (simp; omega))] | rw [fa_drew] | rw [fa_past (by first | omega | (simp; done) | (simp; omega))] | rw [fa_here (by first | omega | (simp; done) | (simp; omega))] | rw [fs_other (by first | omega | (simp; done) | (simp; omega))])) <;> (first | rfl | assumption | (simp; done)))); clear hc3 hf3) | (go_at_call 128; refine (HMK.out _ _ _ HM3.out HV3.out ?_).mono ?_; exact (by omega); rintro e w4 ⟨s4, a4, n4, cap4, rfl, hz4, hfr4, hb4⟩; have HZ4 := Lib.hid hz4; have HFr4 := Lib.hid hfr4; clear hz4 hfr4; obtain ⟨hc4, hf4⟩ := bcell hb4; have hs4 := hb4.size; (try simp at hs4); have HB4 := Lib.hid (below_call HB3.out hb4 (by first | omega | (simp; done) | (simp; omega))); have dc4_0 : w4.cell? ⟨w.heap.size, 0, none⟩ = some (.bool s) := (by ((repeat (first | rw [hc4 _ _ (by first | omega | (simp; done) | (simp; omega))] | rw [ca_drew] | rw [ca_past (by first | omega | (simp; done) | (simp; omega))] | rw [ca_here (by first | omega | (simp; done) | (simp; omega))] | rw [cs_other (by first | omega | (simp; done) | (simp; omega))])) <;> (first | rfl | assumption | (simp; done)))); have dc4_1 : w4.cell? ⟨w.heap.size + 1 + 1, 0, none⟩ = some (.bool false) := (by ((repeat (first | rw [hc4 _ _ (by first | omega | (simp; done) | (simp; omega))] | rw [ca_drew] | rw [ca_past (by first | omega | (simp; done) | (simp; omega))] | rw [ca_here (by first | omega | (simp; done) | (simp; omega))] | rw [cs_other (by first | omega | (simp; done) | (simp; omega))])) <;> (first | rfl | assumption | (simp; done)))); have dc4_2 : w4.cell? ⟨w.heap.size + 1 + 1, 1, none⟩ = some (.slice none 0 0) := (by ((repeat (first | rw [hc4 _ _ (by first | omega | (simp; done) | (simp; omega))] | rw [ca_drew] | rw [ca_past (by first | omega | (simp; done) | (simp; omega))] | rw [ca_here (by first | omega | (simp; done) | (simp; omega))] | rw [cs_other (by first | omega | (simp; done) | (simp; omega))])) <;> (first | rfl | assumption | (simp; done)))); have df4_0 : w4.frozen? ⟨w.heap.size + 1 + 1, 0, none⟩ = false := (by ((repeat (first | rw [hf4 _ _ (by first | omega | (simp; done) | (simp; omega))] | rw [fa_drew] | rw [fa_past (by first | omega | (simp; done) | (simp; omega))] | rw [fa_here (by first | omega | (simp; done) | (simp; omega))] | rw [fs_other (by first | omega | (simp; done) | (simp; omega))])) <;> (first | rfl | assumption | (simp; done)))); have df4_1 : w4.frozen? ⟨w.heap.size + 1 + 1, 1, none⟩ = false := (by ((repeat (first | rw [hf4 _ _ (by first | omega | (simp; done) | (simp; omega))] | rw [fa_drew] | rw [fa_past (by first | omega | (simp; done) | (simp; omega))] | rw [fa_here (by first | omega | (simp; done) | (simp; omega))] | rw [fs_other (by first | omega | (simp; done) | (simp; omega))])) <;> (first | rfl | assumption | (simp; done)))); clear hc4 hf4))
    go_wp2_with fail
    refine bodyPost_ret (v := .agg #[.bool s4, .slice a4 n4 cap4]) (zres2 rfl rfl dc4_1 dc4_2) rfl ?_
    exact zfin HB4.out (by first | omega | (simp; done) | (simp; omega)) (R := (w.heap.size + 1 + 1)) (base := (w.heap.size + 1 + 1) + 1) (Nat.lt_succ_self _) HZ4.out (HFr4.out.mono (by first | omega | (simp; done) | (simp; omega))) _ _
  · have hb : (s == s') = false := by cases s <;> cases s' <;> simp_all
    have HC := Lib.hid (fun W (hb : Below w2.heap.size w2 W) => zcmp_any _ _ _ _ W (HM1'.out.below hb) (HM2.out.below hb) (by have := HD.out; omega) (by have := HD'.out; omega))
    rw [cmpL_digs] at HC
    have hlx : (digs x).length ≤ 1099511627776 := by have := HD.out; omega
    have hly : (digs y).length ≤ 1099511627776 := by have := HD'.out; omega
    by_cases hyx : y ≤ x
    · have hzz := add_ge hs HZ.out HZ'.out hyx
      have HCC : Hid ((0 : Int) ≤ (if x < y then -1 else if y < x then 1 else 0)) := by show (0 : Int) ≤ _; rw [if_neg (by omega)]; split <;> omega
      obtain ⟨cc, hcc⟩ : ∃ cc : Int, (if x < y then -1 else if y < x then 1 else 0) = cc := ⟨_, rfl⟩
      rw [hcc] at HC HCC
      have hcc0 := HCC.out
      have HS := Lib.hid (fun W (hb : Below w2.heap.size w2 W) => zdif_any _ _ _ _ W (HM1'.out.below hb) (HM2.out.below hb) hlx (digs_mono hyx) (by rw [val_digs, val_digs]; exact hyx))
      rw [val_digs, val_digs] at HS
      have HMK := Lib.hid (fun (W : World) (v : Value) (L : List Nat) (h : Mg W v L) (hv : val L = x - y) (hle : L.length ≤ 1099511627776) => zmake_any s v L W (z + z') h hle (by rw [hv]; exact hzz))
      clear hzz hcc
      go_wp2_with fail
      refine (HC.out _ (Below.refl _ _)).mono ?_
      rintro e w5 ⟨rfl, hb5⟩
      obtain ⟨hc5, hf5⟩ := bcell hb5
      have hs5 := hb5.size
      have HB5 := Lib.hid (below_call HB2.out hb5 (by first | omega | (simp; done) | (simp; omega)))
      have HbN5 := Lib.hid hb5
      have dc5_0 : w5.cell? ⟨w.heap.size, 0, none⟩ = some (.bool s) := (by ((repeat (first | rw [hc5 _ _ (by first | omega | (simp; done) | (simp; omega))] | rw [ca_drew] | rw [ca_past (by first | omega | (simp; done) | (simp; omega))] | rw [ca_here (by first | omega | (simp; done) | (simp; omega))] | rw [cs_other (by first | omega | (simp; done) | (simp; omega))])) <;> (first | rfl | assumption | (simp; done))))
      have dc5_1 : w5.cell? ⟨w.heap.size + 1 + 1, 0, none⟩ = some (.bool false) := (by ((repeat (first | rw [hc5 _ _ (by first | omega | (simp; done) | (simp; omega))] | rw [ca_drew] | rw [ca_past (by first | omega | (simp; done) | (simp; omega))] | rw [ca_here (by first | omega | (simp; done) | (simp; omega))] | rw [cs_other (by first | omega | (simp; done) | (simp; omega))])) <;> (first | rfl | assumption | (simp; done))))
      have dc5_2 : w5.cell? ⟨w.heap.size + 1 + 1, 1, none⟩ = some (.slice none 0 0) := (by ((repeat (first | rw [hc5 _ _ (by first | omega | (simp; done) | (simp; omega))] | rw [ca_drew] | rw [ca_past (by first | omega | (simp; done) | (simp; omega))] | rw [ca_here (by first | omega | (simp; done) | (simp; omega))] | rw [cs_other (by first | omega | (simp; done) | (simp; omega))])) <;> (first | rfl | assumption | (simp; done))))
      have df5_0 : w5.frozen? ⟨w.heap.size + 1 + 1, 0, none⟩ = false := (by ((repeat (first | rw [hf5 _ _ (by first | omega | (simp; done) | (simp; omega))] | rw [fa_drew] | rw [fa_past (by first | omega | (simp; done) | (simp; omega))] | rw [fa_here (by first | omega | (simp; done) | (simp; omega))] | rw [fs_other (by first | omega | (simp; done) | (simp; omega))])) <;> (first | rfl | assumption | (simp; done))))
      have df5_1 : w5.frozen? ⟨w.heap.size + 1 + 1, 1, none⟩ = false := (by ((repeat (first | rw [hf5 _ _ (by first | omega | (simp; done) | (simp; omega))] | rw [fa_drew] | rw [fa_past (by first | omega | (simp; done) | (simp; omega))] | rw [fa_here (by first | omega | (simp; done) | (simp; omega))] | rw [fs_other (by first | omega | (simp; done) | (simp; omega))])) <;> (first | rfl | assumption | (simp; done))))
      clear hc5 hf5 hb5
      go_wp2_with fail
      have tok3 : True := trivial
      go_region_held3 (fun W => W.cell? ⟨w.heap.size, 0, none⟩ = some (.bool s)) (((try dsimp only); (repeat' apply And.intro) <;> (first | assumption | go_keep | (go_split_ands; (repeat (first | rw [cs_other (by first | omega | (simp; done) | (simp; omega))] | rw [ca_past (by first | omega | (simp; done) | (simp; omega))] | rw [ca_drew])); assumption))))
        (first | (go_at_call 147; have _t := tok3; clear tok3; refine (HS.out _ ?_).mono ?_; exact HbN5.out.drew; rintro e w3 ⟨L3, v3, rfl, hown3, hlm3, hval3, hlen3, hb3⟩; obtain ⟨a3, cap3, hv3, _⟩ := (Mg.of_owns hown3 hlm3).form; subst hv3; have HM3 := Lib.hid (Mg.of_owns hown3 hlm3); have HV3 := Lib.hid hval3; clear hown3 hlm3 hval3; obtain ⟨hc3, hf3⟩ := bcell hb3; have hs3 := hb3.size; (try simp at hs3); have HB3 := Lib.hid (below_call HB5.out.drew hb3 (by first | omega | (simp; done) | (simp; omega))); have dc3_0 : w3.cell? ⟨w.heap.size, 0, none⟩ = some (.bool s) := (by ((repeat (first | rw [hc3 _ _ (by first | omega | (simp; done) | (simp; omega))] | rw [ca_drew] | rw [ca_past (by first | omega | (simp; done) | (simp; omega))] | rw [ca_here (by first | omega | (simp; done) | (simp; omega))] | rw [cs_other (by first | omega | (simp; done) | (simp; omega))])) <;> (first | rfl | assumption | (simp; done)))); have dc3_1 : w3.cell? ⟨w.heap.size + 1 + 1, 0, none⟩ = some (.bool false) := (by ((repeat (first | rw [hc3 _ _ (by first | omega | (simp; done) | (simp; omega))] | rw [ca_drew] | rw [ca_past (by first | omega | (simp; done) | (simp; omega))] | rw [ca_here (by first | omega | (simp; done) | (simp; omega))] | rw [cs_other (by first | omega | (simp; done) | (simp; omega))])) <;> (first | rfl | assumption | (simp; done)))); have dc3_2 : w3.cell? ⟨w.heap.size + 1 + 1, 1, none⟩ = some (.slice none 0 0) := (by ((repeat (first | rw [hc3 _ _ (by first | omega | (simp; done) | (simp; omega))] | rw [ca_drew] | rw [ca_past (by first | omega | (simp; done) | (simp; omega))] | rw [ca_here (by first | omega | (simp; done) | (simp; omega))] | rw [cs_other (by first | omega | (simp; done) | (simp; omega))])) <;> (first | rfl | assumption | (simp; done)))); have df3_0 : w3.frozen? ⟨w.heap.size + 1 + 1, 0, none⟩ = false := (by ((repeat (first | rw [hf3 _ _ (by first | omega | (simp; done) | (simp; omega))] | rw [fa_drew] | rw [fa_past (by first | omega | (simp; done) | (simp; omega))] | rw [fa_here (by first | omega | (simp; done) | (simp; omega))] | rw [fs_other (by first | omega | (simp; done) | (simp; omega))])) <;> (first | rfl | assumption | (simp; done)))); have df3_1 : w3.frozen? ⟨w.heap.size + 1 + 1, 1, none⟩ = false := (by ((repeat (first | rw [hf3 _ _ (by first | omega | (simp; done) | (simp; omega))] | rw [fa_drew] | rw [fa_past (by first | omega | (simp; done) | (simp; omega))] | rw [fa_here (by first | omega | (simp; done) | (simp; omega))] | rw [fs_other (by first | omega | (simp; done) | (simp; omega))])) <;> (first | rfl | assumption | (simp; done)))); clear hc3 hf3) | (go_at_call 128; refine (HMK.out _ _ _ HM3.out HV3.out ?_).mono ?_; exact (by omega); rintro e w4 ⟨s4, a4, n4, cap4, rfl, hz4, hfr4, hb4⟩; have HZ4 := Lib.hid hz4; have HFr4 := Lib.hid hfr4; clear hz4 hfr4; obtain ⟨hc4, hf4⟩ := bcell hb4; have hs4 := hb4.size; (try simp at hs4); have HB4 := Lib.hid (below_call HB3.out hb4 (by first | omega | (simp; done) | (simp; omega))); have dc4_0 : w4.cell? ⟨w.heap.size, 0, none⟩ = some (.bool s) := (by ((repeat (first | rw [hc4 _ _ (by first | omega | (simp; done) | (simp; omega))] | rw [ca_drew] | rw [ca_past (by first | omega | (simp; done) | (simp; omega))] | rw [ca_here (by first | omega | (simp; done) | (simp; omega))] | rw [cs_other (by first | omega | (simp; done) | (simp; omega))])) <;> (first | rfl | assumption | (simp; done)))); have dc4_1 : w4.cell? ⟨w.heap.size + 1 + 1, 0, none⟩ = some (.bool false) := (by ((repeat (first | rw [hc4 _ _ (by first | omega | (simp; done) | (simp; omega))] | rw [ca_drew] | rw [ca_past (by first | omega | (simp; done) | (simp; omega))] | rw [ca_here (by first | omega | (simp; done) | (simp; omega))] | rw [cs_other (by first | omega | (simp; done) | (simp; omega))])) <;> (first | rfl | assumption | (simp; done)))); have dc4_2 : w4.cell? ⟨w.heap.size + 1 + 1, 1, none⟩ = some (.slice none 0 0) := (by ((repeat (first | rw [hc4 _ _ (by first | omega | (simp; done) | (simp; omega))] | rw [ca_drew] | rw [ca_past (by first | omega | (simp; done) | (simp; omega))] | rw [ca_here (by first | omega | (simp; done) | (simp; omega))] | rw [cs_other (by first | omega | (simp; done) | (simp; omega))])) <;> (first | rfl | assumption | (simp; done)))); have df4_0 : w4.frozen? ⟨w.heap.size + 1 + 1, 0, none⟩ = false := (by ((repeat (first | rw [hf4 _ _ (by first | omega | (simp; done) | (simp; omega))] | rw [fa_drew] | rw [fa_past (by first | omega | (simp; done) | (simp; omega))] | rw [fa_here (by first | omega | (simp; done) | (simp; omega))] | rw [fs_other (by first | omega | (simp; done) | (simp; omega))])) <;> (first | rfl | assumption | (simp; done)))); have df4_1 : w4.frozen? ⟨w.heap.size + 1 + 1, 1, none⟩ = false := (by ((repeat (first | rw [hf4 _ _ (by first | omega | (simp; done) | (simp; omega))] | rw [fa_drew] | rw [fa_past (by first | omega | (simp; done) | (simp; omega))] | rw [fa_here (by first | omega | (simp; done) | (simp; omega))] | rw [fs_other (by first | omega | (simp; done) | (simp; omega))])) <;> (first | rfl | assumption | (simp; done)))); clear hc4 hf4))
      go_wp2_with fail
      refine bodyPost_ret (v := .agg #[.bool s4, .slice a4 n4 cap4]) (zres2 rfl rfl dc4_1 dc4_2) rfl ?_
      exact zfin HB4.out (by first | omega | (simp; done) | (simp; omega)) (R := (w.heap.size + 1 + 1)) (base := (w.heap.size + 1 + 1) + 1) (Nat.lt_succ_self _) HZ4.out (HFr4.out.mono (by first | omega | (simp; done) | (simp; omega))) _ _
    · have hxy : x ≤ y := by omega
      have hzz := add_lt hs HZ.out HZ'.out hxy
      have HCC : Hid (¬ (0 : Int) ≤ (if x < y then -1 else if y < x then 1 else 0)) := by show ¬ (0 : Int) ≤ _; rw [if_pos (by omega)]; omega
      obtain ⟨cc, hcc⟩ : ∃ cc : Int, (if x < y then -1 else if y < x then 1 else 0) = cc := ⟨_, rfl⟩
      rw [hcc] at HC HCC
      have hcc0 := HCC.out
      have HS := Lib.hid (fun W (hb : Below w2.heap.size w2 W) => zdif_any _ _ _ _ W (HM2.out.below hb) (HM1'.out.below hb) hly (digs_mono hxy) (by rw [val_digs, val_digs]; exact hxy))
      rw [val_digs, val_digs] at HS
      have HMK := Lib.hid (fun (W : World) (v : Value) (L : List Nat) (h : Mg W v L) (hv : val L = y - x) (hle : L.length ≤ 1099511627776) => zmake_any s' v L W (z + z') h hle (by rw [hv]; exact hzz))
      clear hzz hcc
      go_wp2_with fail
      refine (HC.out _ (Below.refl _ _)).mono ?_
      rintro e w5 ⟨rfl, hb5⟩
      obtain ⟨hc5, hf5⟩ := bcell hb5
      have hs5 := hb5.size
      have HB5 := Lib.hid (below_call HB2.out hb5 (by first | omega | (simp; done) | (simp; omega)))
      have HbN5 := Lib.hid hb5
      have dc5_0 : w5.cell? ⟨w.heap.size + 1, 0, none⟩ = some (.bool s') := (by ((repeat (first | rw [hc5 _ _ (by first | omega | (simp; done) | (simp; omega))] | rw [ca_drew] | rw [ca_past (by first | omega | (simp; done) | (simp; omega))] | rw [ca_here (by first | omega | (simp; done) | (simp; omega))] | rw [cs_other (by first | omega | (simp; done) | (simp; omega))])) <;> (first | rfl | assumption | (simp; done))))
      have dc5_1 : w5.cell? ⟨w.heap.size + 1 + 1, 0, none⟩ = some (.bool false) := (by ((repeat (first | rw [hc5 _ _ (by first | omega | (simp; done) | (simp; omega))] | rw [ca_drew] | rw [ca_past (by first | omega | (simp; done) | (simp; omega))] | rw [ca_here (by first | omega | (simp; done) | (simp; omega))] | rw [cs_other (by first | omega | (simp; done) | (simp; omega))])) <;> (first | rfl | assumption | (simp; done))))
      have dc5_2 : w5.cell? ⟨w.heap.size + 1 + 1, 1, none⟩ = some (.slice none 0 0) := (by ((repeat (first | rw [hc5 _ _ (by first | omega | (simp; done) | (simp; omega))] | rw [ca_drew] | rw [ca_past (by first | omega | (simp; done) | (simp; omega))] | rw [ca_here (by first | omega | (simp; done) | (simp; omega))] | rw [cs_other (by first | omega | (simp; done) | (simp; omega))])) <;> (first | rfl | assumption | (simp; done))))
      have df5_0 : w5.frozen? ⟨w.heap.size + 1 + 1, 0, none⟩ = false := (by ((repeat (first | rw [hf5 _ _ (by first | omega | (simp; done) | (simp; omega))] | rw [fa_drew] | rw [fa_past (by first | omega | (simp; done) | (simp; omega))] | rw [fa_here (by first | omega | (simp; done) | (simp; omega))] | rw [fs_other (by first | omega | (simp; done) | (simp; omega))])) <;> (first | rfl | assumption | (simp; done))))
      have df5_1 : w5.frozen? ⟨w.heap.size + 1 + 1, 1, none⟩ = false := (by ((repeat (first | rw [hf5 _ _ (by first | omega | (simp; done) | (simp; omega))] | rw [fa_drew] | rw [fa_past (by first | omega | (simp; done) | (simp; omega))] | rw [fa_here (by first | omega | (simp; done) | (simp; omega))] | rw [fs_other (by first | omega | (simp; done) | (simp; omega))])) <;> (first | rfl | assumption | (simp; done))))
      clear hc5 hf5 hb5
      go_wp2_with fail
      have tok3 : True := trivial
      go_region_held3 (fun W => W.cell? ⟨w.heap.size + 1, 0, none⟩ = some (.bool s')) (((try dsimp only); (repeat' apply And.intro) <;> (first | assumption | go_keep | (go_split_ands; (repeat (first | rw [cs_other (by first | omega | (simp; done) | (simp; omega))] | rw [ca_past (by first | omega | (simp; done) | (simp; omega))] | rw [ca_drew])); assumption))))
        (first | (go_at_call 147; have _t := tok3; clear tok3; refine (HS.out _ ?_).mono ?_; exact HbN5.out.drew; rintro e w3 ⟨L3, v3, rfl, hown3, hlm3, hval3, hlen3, hb3⟩; obtain ⟨a3, cap3, hv3, _⟩ := (Mg.of_owns hown3 hlm3).form; subst hv3; have HM3 := Lib.hid (Mg.of_owns hown3 hlm3); have HV3 := Lib.hid hval3; clear hown3 hlm3 hval3; obtain ⟨hc3, hf3⟩ := bcell hb3; have hs3 := hb3.size; (try simp at hs3); have HB3 := Lib.hid (below_call HB5.out.drew hb3 (by first | omega | (simp; done) | (simp; omega))); have dc3_0 : w3.cell? ⟨w.heap.size + 1, 0, none⟩ = some (.bool s') := (by ((repeat (first | rw [hc3 _ _ (by first | omega | (simp; done) | (simp; omega))] | rw [ca_drew] | rw [ca_past (by first | omega | (simp; done) | (simp; omega))] | rw [ca_here (by first | omega | (simp; done) | (simp; omega))] | rw [cs_other (by first | omega | (simp; done) | (simp; omega))])) <;> (first | rfl | assumption | (simp; done)))); have dc3_1 : w3.cell? ⟨w.heap.size + 1 + 1, 0, none⟩ = some (.bool false) := (by ((repeat (first | rw [hc3 _ _ (by first | omega | (simp; done) | (simp; omega))] | rw [ca_drew] | rw [ca_past (by first | omega | (simp; done) | (simp; omega))] | rw [ca_here (by first | omega | (simp; done) | (simp; omega))] | rw [cs_other (by first | omega | (simp; done) | (simp; omega))])) <;> (first | rfl | assumption | (simp; done)))); have dc3_2 : w3.cell? ⟨w.heap.size + 1 + 1, 1, none⟩ = some (.slice none 0 0) := (by ((repeat (first | rw [hc3 _ _ (by first | omega | (simp; done) | (simp; omega))] | rw [ca_drew] | rw [ca_past (by first | omega | (simp; done) | (simp; omega))] | rw [ca_here (by first | omega | (simp; done) | (simp; omega))] | rw [cs_other (by first | omega | (simp; done) | (simp; omega))])) <;> (first | rfl | assumption | (simp; done)))); have df3_0 : w3.frozen? ⟨w.heap.size + 1 + 1, 0, none⟩ = false := (by ((repeat (first | rw [hf3 _ _ (by first | omega | (simp; done) | (simp; omega))] | rw [fa_drew] | rw [fa_past (by first | omega | (simp; done) | (simp; omega))] | rw [fa_here (by first | omega | (simp; done) | (simp; omega))] | rw [fs_other (by first | omega | (simp; done) | (simp; omega))])) <;> (first | rfl | assumption | (simp; done)))); have df3_1 : w3.frozen? ⟨w.heap.size + 1 + 1, 1, none⟩ = false := (by ((repeat (first | rw [hf3 _ _ (by first | omega | (simp; done) | (simp; omega))] | rw [fa_drew] | rw [fa_past (by first | omega | (simp; done) | (simp; omega))] | rw [fa_here (by first | omega | (simp; done) | (simp; omega))] | rw [fs_other (by first | omega | (simp; done) | (simp; omega))])) <;> (first | rfl | assumption | (simp; done)))); clear hc3 hf3) | (go_at_call 128; refine (HMK.out _ _ _ HM3.out HV3.out ?_).mono ?_; exact (by omega); rintro e w4 ⟨s4, a4, n4, cap4, rfl, hz4, hfr4, hb4⟩; have HZ4 := Lib.hid hz4; have HFr4 := Lib.hid hfr4; clear hz4 hfr4; obtain ⟨hc4, hf4⟩ := bcell hb4; have hs4 := hb4.size; (try simp at hs4); have HB4 := Lib.hid (below_call HB3.out hb4 (by first | omega | (simp; done) | (simp; omega))); have dc4_0 : w4.cell? ⟨w.heap.size + 1, 0, none⟩ = some (.bool s') := (by ((repeat (first | rw [hc4 _ _ (by first | omega | (simp; done) | (simp; omega))] | rw [ca_drew] | rw [ca_past (by first | omega | (simp; done) | (simp; omega))] | rw [ca_here (by first | omega | (simp; done) | (simp; omega))] | rw [cs_other (by first | omega | (simp; done) | (simp; omega))])) <;> (first | rfl | assumption | (simp; done)))); have dc4_1 : w4.cell? ⟨w.heap.size + 1 + 1, 0, none⟩ = some (.bool false) := (by ((repeat (first | rw [hc4 _ _ (by first | omega | (simp; done) | (simp; omega))] | rw [ca_drew] | rw [ca_past (by first | omega | (simp; done) | (simp; omega))] | rw [ca_here (by first | omega | (simp; done) | (simp; omega))] | rw [cs_other (by first | omega | (simp; done) | (simp; omega))])) <;> (first | rfl | assumption | (simp; done)))); have dc4_2 : w4.cell? ⟨w.heap.size + 1 + 1, 1, none⟩ = some (.slice none 0 0) := (by ((repeat (first | rw [hc4 _ _ (by first | omega | (simp; done) | (simp; omega))] | rw [ca_drew] | rw [ca_past (by first | omega | (simp; done) | (simp; omega))] | rw [ca_here (by first | omega | (simp; done) | (simp; omega))] | rw [cs_other (by first | omega | (simp; done) | (simp; omega))])) <;> (first | rfl | assumption | (simp; done)))); have df4_0 : w4.frozen? ⟨w.heap.size + 1 + 1, 0, none⟩ = false := (by ((repeat (first | rw [hf4 _ _ (by first | omega | (simp; done) | (simp; omega))] | rw [fa_drew] | rw [fa_past (by first | omega | (simp; done) | (simp; omega))] | rw [fa_here (by first | omega | (simp; done) | (simp; omega))] | rw [fs_other (by first | omega | (simp; done) | (simp; omega))])) <;> (first | rfl | assumption | (simp; done)))); have df4_1 : w4.frozen? ⟨w.heap.size + 1 + 1, 1, none⟩ = false := (by ((repeat (first | rw [hf4 _ _ (by first | omega | (simp; done) | (simp; omega))] | rw [fa_drew] | rw [fa_past (by first | omega | (simp; done) | (simp; omega))] | rw [fa_here (by first | omega | (simp; done) | (simp; omega))] | rw [fs_other (by first | omega | (simp; done) | (simp; omega))])) <;> (first | rfl | assumption | (simp; done)))); clear hc4 hf4))
      go_wp2_with fail
      refine bodyPost_ret (v := .agg #[.bool s4, .slice a4 n4 cap4]) (zres2 rfl rfl dc4_1 dc4_2) rfl ?_
      exact zfin HB4.out (by first | omega | (simp; done) | (simp; omega)) (R := (w.heap.size + 1 + 1)) (base := (w.heap.size + 1 + 1) + 1) (Nat.lt_succ_self _) HZ4.out (HFr4.out.mono (by first | omega | (simp; done) | (simp; omega))) _ _
end Go.Proofs.YtpiflllcjgpkhaaGreatDoor

namespace Go.Proofs.YtpiflllcjgpkhaaGreatDoor
open Go.RowKit Limb
theorem sz_neg (z : Int) : sz (-z) = sz z := by unfold sz; rw [Int.natAbs_neg]
set_option maxHeartbeats 4000000 in
theorem zsub_any (s : Bool) (a : Option Addr) (n cap : Nat) (z : Int) (k : Nat) (s' : Bool) (a' : Option Addr) (n' cap' : Nat) (z' : Int) (k' : Nat) (w : World) (h : IsZ w s a n cap z k) (h' : IsZ w s' a' n' cap' z' k') (hk : k ≤ 1073741824) (hk' : k' ≤ 1073741824) :
    Calls Tryz.prog 154 #[.agg #[.bool s, .slice a n cap], .agg #[.bool s', .slice a' n' cap']] w (ZPost (z - z') w) := by
  have hb0 := (((Below.refl w.heap.size w).alloc (Nat.le_refl _) (.cells #[.bool s, .slice a n cap] 25)).alloc (by first | omega | (simp; done) | (simp; omega)) (.cells #[.bool s', .slice a' n' cap'] 25)).alloc (by first | omega | (simp; done) | (simp; omega)) (.cells #[.bool false, .slice none 0 0] 25)
  have HN := Lib.hid (fun W (hb : Below w.heap.size w W) => zneg_any _ _ _ _ _ _ W (h'.below hb) (by omega))
  have hsz' : sz (-z') ≤ 1073741824 := by
    obtain ⟨l', hl', hm', hn', hz'⟩ := h'
    rw [sz_neg]; unfold sz; rw [(signed_neg hz').1]
    exact digs_le_len (by omega) hm'.2
  have HA := Lib.hid (fun (W : World) (s1 : Bool) (a1 : Option Addr) (n1 cap1 : Nat) (hc : Can W s1 a1 n1 cap1 (-z')) (hb : Below w.heap.size w W) => zadd_any _ _ _ _ _ _ _ _ _ _ _ _ W (h.below hb) hc.isZ hk hsz')
  have HB0 := Lib.hid hb0
  have e : z + -z' = z - z' := by omega
  rw [e] at HA
  clear h h' hb0 e
  go_enter Tryz.func154, Tryz.ntmps154
  go_wp2_with fail
  have tok1 : True := trivial
  go_region_held3 (fun W => W.cell? ⟨w.heap.size, 0, none⟩ = some (.bool s) ∧ W.cell? ⟨w.heap.size, 1, none⟩ = some (.slice a n cap) ∧ W.cell? ⟨w.heap.size + 1, 0, none⟩ = some (.bool s') ∧ W.cell? ⟨w.heap.size + 1, 1, none⟩ = some (.slice a' n' cap')) (((try dsimp only); (repeat' apply And.intro) <;> (first | assumption | go_keep | (go_split_ands; (repeat (first | rw [cs_other (by first | omega | (simp; done) | (simp; omega))] | rw [ca_past (by first | omega | (simp; done) | (simp; omega))] | rw [ca_drew])); assumption))))
    (first | (go_at_call 123; have _t := tok1; clear tok1; refine (HN.out _ ?_).mono ?_; exact HB0.out.drew; rintro e w1 ⟨s1, a1, n1, cap1, rfl, hz1, hfr1, hb1⟩; have HZ1 := Lib.hid hz1; have HFr1 := Lib.hid hfr1; clear hz1 hfr1; obtain ⟨hc1, hf1⟩ := bcell hb1; have hs1 := hb1.size; (try simp at hs1); have HB1 := Lib.hid (below_call HB0.out.drew hb1 (by first | omega | (simp; done) | (simp; omega))); have dc1_0 : w1.cell? ⟨w.heap.size, 0, none⟩ = some (.bool s) := (by ((repeat (first | rw [hc1 _ _ (by first | omega | (simp; done) | (simp; omega))] | rw [ca_drew] | rw [ca_past (by first | omega | (simp; done) | (simp; omega))] | rw [ca_here (by first | omega | (simp; done) | (simp; omega))] | rw [cs_other (by first | omega | (simp; done) | (simp; omega))])) <;> (first | rfl | assumption | (simp; done)))); have dc1_1 : w1.cell? ⟨w.heap.size, 1, none⟩ = some (.slice a n cap) := (by ((repeat (first | rw [hc1 _ _ (by first | omega | (simp; done) | (simp; omega))] | rw [ca_drew] | rw [ca_past (by first | omega | (simp; done) | (simp; omega))] | rw [ca_here (by first | omega | (simp; done) | (simp; omega))] | rw [cs_other (by first | omega | (simp; done) | (simp; omega))])) <;> (first | rfl | assumption | (simp; done)))); have dc1_2 : w1.cell? ⟨w.heap.size + 1, 0, none⟩ = some (.bool s') := (by ((repeat (first | rw [hc1 _ _ (by first | omega | (simp; done) | (simp; omega))] | rw [ca_drew] | rw [ca_past (by first | omega | (simp; done) | (simp; omega))] | rw [ca_here (by first | omega | (simp; done) | (simp; omega))] | rw [cs_other (by first | omega | (simp; done) | (simp; omega))])) <;> (first | rfl | assumption | (simp; done)))); have dc1_3 : w1.cell? ⟨w.heap.size + 1, 1, none⟩ = some (.slice a' n' cap') := (by ((repeat (first | rw [hc1 _ _ (by first | omega | (simp; done) | (simp; omega))] | rw [ca_drew] | rw [ca_past (by first | omega | (simp; done) | (simp; omega))] | rw [ca_here (by first | omega | (simp; done) | (simp; omega))] | rw [cs_other (by first | omega | (simp; done) | (simp; omega))])) <;> (first | rfl | assumption | (simp; done)))); have dc1_4 : w1.cell? ⟨w.heap.size + 1 + 1, 0, none⟩ = some (.bool false) := (by ((repeat (first | rw [hc1 _ _ (by first | omega | (simp; done) | (simp; omega))] | rw [ca_drew] | rw [ca_past (by first | omega | (simp; done) | (simp; omega))] | rw [ca_here (by first | omega | (simp; done) | (simp; omega))] | rw [cs_other (by first | omega | (simp; done) | (simp; omega))])) <;> (first | rfl | assumption | (simp; done)))); have dc1_5 : w1.cell? ⟨w.heap.size + 1 + 1, 1, none⟩ = some (.slice none 0 0) := (by ((repeat (first | rw [hc1 _ _ (by first | omega | (simp; done) | (simp; omega))] | rw [ca_drew] | rw [ca_past (by first | omega | (simp; done) | (simp; omega))] | rw [ca_here (by first | omega | (simp; done) | (simp; omega))] | rw [cs_other (by first | omega | (simp; done) | (simp; omega))])) <;> (first | rfl | assumption | (simp; done)))); have df1_0 : w1.frozen? ⟨w.heap.size + 1 + 1, 0, none⟩ = false := (by ((repeat (first | rw [hf1 _ _ (by first | omega | (simp; done) | (simp; omega))] | rw [fa_drew] | rw [fa_past (by first | omega | (simp; done) | (simp; omega))] | rw [fa_here (by first | omega | (simp; done) | (simp; omega))] | rw [fs_other (by first | omega | (simp; done) | (simp; omega))])) <;> (first | rfl | assumption | (simp; done)))); have df1_1 : w1.frozen? ⟨w.heap.size + 1 + 1, 1, none⟩ = false := (by ((repeat (first | rw [hf1 _ _ (by first | omega | (simp; done) | (simp; omega))] | rw [fa_drew] | rw [fa_past (by first | omega | (simp; done) | (simp; omega))] | rw [fa_here (by first | omega | (simp; done) | (simp; omega))] | rw [fs_other (by first | omega | (simp; done) | (simp; omega))])) <;> (first | rfl | assumption | (simp; done)))); clear hc1 hf1) | (go_at_call 126; refine (HA.out _ _ _ _ _ HZ1.out ?_).mono ?_; exact HB1.out; rintro e w2 ⟨s2, a2, n2, cap2, rfl, hz2, hfr2, hb2⟩; have HZ2 := Lib.hid hz2; have HFr2 := Lib.hid hfr2; clear hz2 hfr2; obtain ⟨hc2, hf2⟩ := bcell hb2; have hs2 := hb2.size; (try simp at hs2); have HB2 := Lib.hid (below_call HB1.out hb2 (by first | omega | (simp; done) | (simp; omega))); have dc2_0 : w2.cell? ⟨w.heap.size, 0, none⟩ = some (.bool s) := (by ((repeat (first | rw [hc2 _ _ (by first | omega | (simp; done) | (simp; omega))] | rw [ca_drew] | rw [ca_past (by first | omega | (simp; done) | (simp; omega))] | rw [ca_here (by first | omega | (simp; done) | (simp; omega))] | rw [cs_other (by first | omega | (simp; done) | (simp; omega))])) <;> (first | rfl | assumption | (simp; done)))); have dc2_1 : w2.cell? ⟨w.heap.size, 1, none⟩ = some (.slice a n cap) := (by ((repeat (first | rw [hc2 _ _ (by first | omega | (simp; done) | (simp; omega))] | rw [ca_drew] | rw [ca_past (by first | omega | (simp; done) | (simp; omega))] | rw [ca_here (by first | omega | (simp; done) | (simp; omega))] | rw [cs_other (by first | omega | (simp; done) | (simp; omega))])) <;> (first | rfl | assumption | (simp; done)))); have dc2_2 : w2.cell? ⟨w.heap.size + 1, 0, none⟩ = some (.bool s') := (by ((repeat (first | rw [hc2 _ _ (by first | omega | (simp; done) | (simp; omega))] | rw [ca_drew] | rw [ca_past (by first | omega | (simp; done) | (simp; omega))] | rw [ca_here (by first | omega | (simp; done) | (simp; omega))] | rw [cs_other (by first | omega | (simp; done) | (simp; omega))])) <;> (first | rfl | assumption | (simp; done)))); have dc2_3 : w2.cell? ⟨w.heap.size + 1, 1, none⟩ = some (.slice a' n' cap') := (by ((repeat (first | rw [hc2 _ _ (by first | omega | (simp; done) | (simp; omega))] | rw [ca_drew] | rw [ca_past (by first | omega | (simp; done) | (simp; omega))] | rw [ca_here (by first | omega | (simp; done) | (simp; omega))] | rw [cs_other (by first | omega | (simp; done) | (simp; omega))])) <;> (first | rfl | assumption | (simp; done)))); have dc2_4 : w2.cell? ⟨w.heap.size + 1 + 1, 0, none⟩ = some (.bool false) := (by ((repeat (first | rw [hc2 _ _ (by first | omega | (simp; done) | (simp; omega))] | rw [ca_drew] | rw [ca_past (by first | omega | (simp; done) | (simp; omega))] | rw [ca_here (by first | omega | (simp; done) | (simp; omega))] | rw [cs_other (by first | omega | (simp; done) | (simp; omega))])) <;> (first | rfl | assumption | (simp; done)))); have dc2_5 : w2.cell? ⟨w.heap.size + 1 + 1, 1, none⟩ = some (.slice none 0 0) := (by ((repeat (first | rw [hc2 _ _ (by first | omega | (simp; done) | (simp; omega))] | rw [ca_drew] | rw [ca_past (by first | omega | (simp; done) | (simp; omega))] | rw [ca_here (by first | omega | (simp; done) | (simp; omega))] | rw [cs_other (by first | omega | (simp; done) | (simp; omega))])) <;> (first | rfl | assumption | (simp; done)))); have df2_0 : w2.frozen? ⟨w.heap.size + 1 + 1, 0, none⟩ = false := (by ((repeat (first | rw [hf2 _ _ (by first | omega | (simp; done) | (simp; omega))] | rw [fa_drew] | rw [fa_past (by first | omega | (simp; done) | (simp; omega))] | rw [fa_here (by first | omega | (simp; done) | (simp; omega))] | rw [fs_other (by first | omega | (simp; done) | (simp; omega))])) <;> (first | rfl | assumption | (simp; done)))); have df2_1 : w2.frozen? ⟨w.heap.size + 1 + 1, 1, none⟩ = false := (by ((repeat (first | rw [hf2 _ _ (by first | omega | (simp; done) | (simp; omega))] | rw [fa_drew] | rw [fa_past (by first | omega | (simp; done) | (simp; omega))] | rw [fa_here (by first | omega | (simp; done) | (simp; omega))] | rw [fs_other (by first | omega | (simp; done) | (simp; omega))])) <;> (first | rfl | assumption | (simp; done)))); clear hc2 hf2))
  go_wp2_with fail
  refine bodyPost_ret (v := .agg #[.bool s2, .slice a2 n2 cap2]) (zres2 rfl rfl dc2_4 dc2_5) rfl ?_
  exact zfin HB2.out (by first | omega | (simp; done) | (simp; omega)) (R := (w.heap.size + 1 + 1)) (base := (w.heap.size + 1 + 1) + 1) (Nat.lt_succ_self _) HZ2.out (HFr2.out.mono (by first | omega | (simp; done) | (simp; omega))) _ _

/-! ### Equality of canonical numbers -/
theorem can_same {w : World} {s : Bool} {a : Option Addr} {n cap : Nat} {z : Int} {s' : Bool} {a' : Option Addr} {n' cap' : Nat} {z' : Int} (h : Can w s a n cap z) (h' : Can w s' a' n' cap' z') :
    (z = z' ∧ s = s' ∧ n = n' ∧ cmpL (digs z.natAbs) (digs z'.natAbs) = 0) ∨ (z ≠ z' ∧ (s ≠ s' ∨ n ≠ n' ∨ cmpL (digs z.natAbs) (digs z'.natAbs) ≠ 0)) := by
  obtain ⟨e1, e2, _⟩ := h
  obtain ⟨e3, e4, _⟩ := h'
  by_cases hz : z = z'
  · left; subst hz; exact ⟨rfl, e1.trans e3.symm, e2.trans e4.symm, cmpL_same _⟩
  · right
    refine ⟨hz, ?_⟩
    by_cases hs : s = s'
    · right; right
      rw [cmpL_digs]
      have hd : decide (z < 0) = decide (z' < 0) := by rw [← e1, ← e3, hs]
      have hd' := decide_eq_decide.1 hd
      by_cases c1 : z.natAbs < z'.natAbs
      · rw [if_pos c1]; omega
      · rw [if_neg c1, if_pos (by omega)]; omega
    · left; exact hs
set_option maxHeartbeats 4000000 in
theorem zsame_any (s : Bool) (a : Option Addr) (n cap : Nat) (z : Int) (s' : Bool) (a' : Option Addr) (n' cap' : Nat) (z' : Int) (w : World) (h : Can w s a n cap z) (h' : Can w s' a' n' cap' z') (hk : sz z ≤ 1073741824) (hk' : sz z' ≤ 1073741824) :
    Calls Tryz.prog 23 #[.agg #[.bool s, .slice a n cap], .agg #[.bool s', .slice a' n' cap']] w fun e w' => e = .returned (.bool (decide (z = z'))) ∧ Below w.heap.size w w' := by
  have hb0 := ((Below.refl w.heap.size w).alloc (Nat.le_refl _) (.cells #[.bool s, .slice a n cap] 25)).alloc (by first | omega | (simp; done) | (simp; omega)) (.cells #[.bool s', .slice a' n' cap'] 25)
  have HC := Lib.hid (fun W (hb : Below w.heap.size w W) => zcmp_any _ _ _ _ W (h.2.2.below hb) (h'.2.2.below hb) (by unfold sz at hk; omega) (by unfold sz at hk'; omega))
  have HB0 := Lib.hid hb0
  have hcs := can_same h h'
  clear h h' hb0
  generalize cmpL (digs z.natAbs) (digs z'.natAbs) = cc at *
  have hways : (decide (z = z') = true ∧ (s == s') = true ∧ ((n : Int) == (n' : Int)) = true ∧ (cc == 0) = true) ∨ (decide (z = z') = false ∧ (s == s') = false) ∨ (decide (z = z') = false ∧ (s == s') = true ∧ ((n : Int) == (n' : Int)) = false) ∨ (decide (z = z') = false ∧ (s == s') = true ∧ ((n : Int) == (n' : Int)) = true ∧ (cc == 0) = false) := by
    simp only [decide_eq_true_eq, decide_eq_false_iff_not, beq_iff_eq, beq_eq_false_iff_ne]
    rcases hcs with ⟨h1, h2, h3, h4⟩ | ⟨h1, h2⟩
    · left; exact ⟨h1, h2, by omega, h4⟩
    · right
      by_cases c1 : s = s'
      · right
        by_cases c2 : n = n'
        · right
          refine ⟨h1, c1, by omega, ?_⟩
          rcases h2 with h2 | h2 | h2
          · exact absurd c1 h2
          · exact absurd c2 h2
          · exact h2
        · left; exact ⟨h1, c1, by omega⟩
      · left; exact ⟨h1, c1⟩
  clear hcs
  rcases hways with ⟨d1, d2, d3, d4⟩ | ⟨d1, d2⟩ | ⟨d1, d2, d3⟩ | ⟨d1, d2, d3, d4⟩
  · have HD := Lib.hid d1
    clear d1
    go_enter Tryz.func23, Tryz.ntmps23
    go_wp2_with (go_at_call 48; refine (HC.out _ HB0.out).mono ?_; rintro e w1 ⟨rfl, hb1⟩; have HB1 := Lib.hid (below_call HB0.out hb1 (by first | omega | (simp; done) | (simp; omega))); clear hb1)
    go_ret
    exact ⟨ret_bool' HD.out.symm, HB1.out⟩
  · have HD := Lib.hid d1
    clear d1
    go_enter Tryz.func23, Tryz.ntmps23
    go_wp2_with fail
    go_ret
    exact ⟨ret_bool' HD.out.symm, HB0.out⟩
  · have HD := Lib.hid d1
    clear d1
    go_enter Tryz.func23, Tryz.ntmps23
    go_wp2_with fail
    go_ret
    exact ⟨ret_bool' HD.out.symm, HB0.out⟩
  · have HD := Lib.hid d1
    clear d1
    go_enter Tryz.func23, Tryz.ntmps23
    go_wp2_with (go_at_call 48; refine (HC.out _ HB0.out).mono ?_; rintro e w1 ⟨rfl, hb1⟩; have HB1 := Lib.hid (below_call HB0.out hb1 (by first | omega | (simp; done) | (simp; omega))); clear hb1)
    go_ret
    exact ⟨ret_bool' HD.out.symm, HB1.out⟩
end Go.Proofs.YtpiflllcjgpkhaaGreatDoor

namespace Go.Proofs.YtpiflllcjgpkhaaGreatDoor
open Go.RowKit Limb
/-- Quotient and rest, as new lists of digits. -/
def DivPost (x y : Nat) (w : World) (e : Ending) (w' : World) : Prop :=
  ∃ a n cap a' n' cap', e = .returned (.tuple #[.slice a n cap, .slice a' n' cap']) ∧ Mg w' (.slice a n cap) (digs (x / y)) ∧ Mg w' (.slice a' n' cap') (digs (x % y)) ∧ n = (digs (x / y)).length ∧ n' = (digs (x % y)).length ∧ Fr w.heap.size a ∧ Fr w.heap.size a' ∧ Below w.heap.size w w'
/-- What divide is asked. -/
def DivOK (x y : Nat) : Prop := ∀ (W : World) (v1 v2 : Value), Mg W v1 (digs x) → Mg W v2 (digs y) → Calls Tryz.prog 153 #[v1, v2] W (DivPost x y W)
theorem val_two_lt {l : List Nat} (h : Lm l) (hl : l.length ≤ 2) : val l < 18446744073709551616 := by
  have h1 := val_lt h
  have : B ^ l.length ≤ B ^ 2 := Nat.pow_le_pow_right B_pos hl
  have e : B ^ 2 = 18446744073709551616 := by decide
  omega
theorem run_mag (s : Bool) (a : Option Addr) (n cap : Nat) (w : World) : Sem.run Tryz.prog (Instr.field 25 (.agg #[.bool s, .slice a n cap]) 1) w = .ok (.slice a n cap) w := by kernel_rfl
attribute [local go_sem] run_mag
set_option maxHeartbeats 4000000 in
theorem zdivide_small (x y : Nat) (hy : y ≠ 0) (hx2 : (digs x).length ≤ 2) (hy2 : (digs y).length ≤ 2) : DivOK x y := by
  intro w v1 v2 h1 h2
  have hyi : ((y : Int) == 0) = false := by rw [beq_eq_false_iff_ne]; omega
  have hx2i : ((digs x).length : Int) ≤ 2 := by omega
  have hy2i : ((digs y).length : Int) ≤ 2 := by omega
  have hypos : (0 : Int) < (y : Int) := by omega
  have bx := val_two_lt (lm_digs x) hx2
  have by' := val_two_lt (lm_digs y) hy2
  rw [val_digs] at bx by'
  have L1 := Lib.hid (zlow_any v1 _ w h1 hx2)
  have L2 := Lib.hid (zlow_any v2 _ w h2 hy2)
  rw [val_digs] at L1 L2
  have hq : x / y < 18446744073709551616 := Nat.lt_of_le_of_lt (Nat.div_le_self _ _) bx
  have hr : x % y < 18446744073709551616 := Nat.lt_of_le_of_lt (Nat.mod_le _ _) bx
  have W1 : Hid (∀ W (z : Int), z = ((x / y : Nat) : Int) → Calls Tryz.prog 110 #[.bool false, .int .u64 z] W (ZPost ((x / y : Nat) : Int) W)) := Lib.hid (fun W z hz => by rw [hz]; exact zword_any false (x / y) W ((x / y : Nat) : Int) hq rfl)
  have W2 : Hid (∀ W (z : Int), z = ((x % y : Nat) : Int) → Calls Tryz.prog 110 #[.bool false, .int .u64 z] W (ZPost ((x % y : Nat) : Int) W)) := Lib.hid (fun W z hz => by rw [hz]; exact zword_any false (x % y) W ((x % y : Nat) : Int) hr rfl)
  have e1 : Hid (IntKind.u64.wrap ((x : Int) / (y : Int)) = ((x / y : Nat) : Int)) := by
    show _ = _
    rw [← Int.natCast_ediv]
    exact IntWalk.u64_in _ ⟨Int.natCast_nonneg _, by omega⟩
  have e2 : Hid (IntKind.u64.wrap ((x : Int) % (y : Int)) = ((x % y : Nat) : Int)) := by
    show _ = _
    rw [← Int.natCast_emod]
    exact IntWalk.u64_in _ ⟨Int.natCast_nonneg _, by omega⟩
  have HB0 := Lib.hid (Below.refl w.heap.size w)
  obtain ⟨a1, cap1, rfl, qa1, qa2, qa3, qa4⟩ := h1.form
  clear qa1 qa2 qa3 qa4
  obtain ⟨a2, cap2, rfl, qa1, qa2, qa3, qa4⟩ := h2.form
  clear qa1 qa2 qa3 qa4
  clear h1 h2
  have tok1 : True := trivial
  go_enter Tryz.func153, Tryz.ntmps153
  go_wp2_with (first | (go_at_call 156; have _t := tok1; clear tok1; refine L1.out.mono ?_; rintro e w' ⟨rfl, rfl⟩) | (go_at_call 156; refine L2.out.mono ?_; rintro e w' ⟨rfl, rfl⟩))
  have tok1 : True := trivial
  go_region_held3 (fun W => True) (((try dsimp only); (repeat' apply And.intro) <;> (first | assumption | go_keep | (go_split_ands; (repeat (first | rw [cs_other (by first | omega | (simp; done) | (simp; omega))] | rw [ca_past (by first | omega | (simp; done) | (simp; omega))] | rw [ca_drew])); assumption))))
    (first | (go_at_call 110; have _t := tok1; clear tok1; refine (W1.out _ _ ?_).mono ?_; exact e1.out; rintro e w1 ⟨s1, a1, n1, cap1, rfl, hz1, hfr1, hb1⟩; have HZ1 := Lib.hid hz1; have HFr1 := Lib.hid hfr1; clear hz1 hfr1; obtain ⟨hc1, hf1⟩ := bcell hb1; have hs1 := hb1.size; (try simp at hs1); have HB1 := Lib.hid (below_call HB0.out.drew hb1 (by first | omega | (simp; done) | (simp; omega))); clear hc1 hf1) | (go_at_call 110; refine (W2.out _ _ ?_).mono ?_; exact (by rw [Int.natCast_emod]; exact Int.tmod_eq_emod_of_nonneg (Int.natCast_nonneg _)); rintro e w2 ⟨s2, a2, n2, cap2, rfl, hz2, hfr2, hb2⟩; have HZ2 := Lib.hid hz2; have HFr2 := Lib.hid hfr2; clear hz2 hfr2; obtain ⟨hc2, hf2⟩ := bcell hb2; have hs2 := hb2.size; (try simp at hs2); have HB2 := Lib.hid (below_call HB1.out hb2 (by first | omega | (simp; done) | (simp; omega))); clear hc2 hf2))
  go_wp2
  go_ret2
  refine ⟨_, _, _, _, _, _, rfl, HZ1.out.2.2.below hb2, HZ2.out.2.2, HZ1.out.2.1, HZ2.out.2.1, HFr1.out.mono (by first | omega | (simp; done) | (simp; omega)), HFr2.out.mono (by first | omega | (simp; done) | (simp; omega)), HB2.out⟩
end Go.Proofs.YtpiflllcjgpkhaaGreatDoor

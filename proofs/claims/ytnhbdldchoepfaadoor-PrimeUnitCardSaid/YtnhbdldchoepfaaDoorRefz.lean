import Derived.Test.YtnhbdldchoepfaaDoorMem
import Derived.Test.YtnhbdldchoepfaaDoorProg
import Derived.Test.YtnhbdldchoepfaaDoorLimb
import Derived.Deep.QuietTactic
import Derived.BigQuiet
import Derived.Deep.RegionHeld3
namespace Go.Proofs.YtnhbdldchoepfaaDoor
open Go.RowKit Limb

theorem ret_int' {k : IntKind} {a b : Int} (h : a = b) : Ending.returned (.int k a) = .returned (.int k b) := by rw [h]
theorem ret_bool' {a b : Bool} (h : a = b) : Ending.returned (.bool a) = .returned (.bool b) := by rw [h]
def limbCells (l : List Nat) : List Value := l.map fun x => .int .u32 (x : Nat)
theorem limbCells_length (l : List Nat) : (limbCells l).length = l.length := by simp [limbCells]
theorem limbCells_get {l : List Nat} {i x : Nat} (h : l[i]? = some x) : (limbCells l)[i]? = some (.int .u32 (x : Nat)) := by simp [limbCells, h]
theorem limbCells_append (a b : List Nat) : limbCells (a ++ b) = limbCells a ++ limbCells b := by simp [limbCells]
theorem limbCells_one (l : List Nat) : ∀ u ∈ limbCells l, u.oneCell' = true := by
  intro u hu
  obtain ⟨x, _, rfl⟩ := List.mem_map.1 hu
  rfl
/-- A slice of limbs. -/
def Mg (w : World) (v : Value) (l : List Nat) : Prop := Rd w v l.length (limbCells l) ∧ Lm l
theorem Mg.below {w w' : World} {v : Value} {l : List Nat} (h : Mg w v l) (hb : Below w.heap.size w w') : Mg w' v l := ⟨h.1.below hb, h.2⟩
/-- The slice written out: nil, or an address with its cells. -/
theorem Mg.form {w : World} {v : Value} {l : List Nat} (h : Mg w v l) : ∃ a cap, v = .slice a l.length cap ∧ l.length ≤ cap ∧ cap ≤ maxLen ∧ (a = none → cap = 0) ∧
    (0 < l.length → ∃ b off, a = some ⟨b, off, none⟩ ∧ b < w.heap.size ∧ ∀ j x, l[j]? = some x → w.cell? ⟨b, off + j, none⟩ = some (.int .u32 (x : Nat))) := by
  obtain ⟨⟨a, cap, rfl, h1, ⟨h2, h2'⟩, h3⟩, _⟩ := h
  refine ⟨a, cap, rfl, h1, h2, h2', fun hl => ?_⟩
  obtain ⟨b, off, rfl, hb, hc⟩ := h3 (fun e => by have := congrArg List.length e; rw [limbCells_length] at this; simp at this; simp [this] at hl)
  exact ⟨b, off, rfl, hb, fun j x hj => hc j _ (limbCells_get hj)⟩
theorem Mg.cell {w : World} {b off n cap : Nat} {l : List Nat} (h : Mg w (.slice (some ⟨b, off, none⟩) n cap) l) {j x : Nat} (hx : l[j]? = some x) : w.cell? ⟨b, off + j, none⟩ = some (.int .u32 (x : Nat)) := by
  obtain ⟨a, cap', hv, _, _, _, hr⟩ := h.form
  injection hv with e1 e2 e3
  subst e1
  obtain ⟨b', off', hv', _, hc⟩ := hr (by have := (List.getElem?_eq_some_iff.1 hx).1; omega)
  injection hv' with hv'
  injection hv' with e4 e5
  subst e4 e5
  exact hc j x hx
theorem Mg.of_owns {w : World} {base e : Nat} {v : Value} {l : List Nat} (h : w.ownsRow base e 1 v l.length (limbCells l)) (hl : Lm l) : Mg w v l := ⟨Rd.of_owns h, hl⟩
theorem info32 : (Tryd.prog.info? 68).map (fun i => (i.zero, i.size, i.bytes)) = some (some (.int .u32 0), 1, 4) := by kernel_rfl
/-- A new slice of limbs. -/
def NewMg (w : World) (l : List Nat) (e : Ending) (w' : World) : Prop :=
  ∃ v, e = .returned v ∧ w'.ownsRow w.heap.size 68 1 v l.length (limbCells l) ∧ Below w.heap.size w w'

theorem app_nil (w : World) : (Builtin.append_ #[22, 22] 22 #[.slice none 0 0, .slice none 0 0]).run Tryd.prog w = .ok (.slice none 0 0) w := by kernel_rfl
set_option maxHeartbeats 1000000 in
theorem ztrim_any (v : Value) (l : List Nat) (w : World) (h : Mg w v l) (hlen : l.length ≤ 1099511627776) :
    Calls Tryd.prog 56 #[v] w (NewMg w (digs (val l))) := by
  obtain ⟨i0, hi, hx⟩ := Option.map_eq_some_iff.1 info32
  simp only [Prod.mk.injEq] at hx
  obtain ⟨hz0, hz1, hz2⟩ := hx
  have HL := Lib.hid h.2
  obtain ⟨a, cap, rfl, hcap, hcm, hnil, hrd⟩ := h.form
  unfold maxLen at hcm
  have HRD := Lib.hid hrd
  have HNIL := Lib.hid hnil
  clear h hrd hnil
  go_enter Tryd.func56, Tryd.ntmps56
  go_wp2_with fail
  go_loopg [3] l.length (fun g s3 wr => ∃ (k : Nat), k ≤ l.length ∧ k = g ∧ s3 = .int .i64 k ∧ w = wr ∧ ∀ i x, k ≤ i → l[i]? = some x → x = 0)
  case atStart => exact ⟨l.length, by omega, rfl, rfl, rfl, fun i x hi hx => by rw [List.getElem?_eq_none hi] at hx; cases hx⟩
  case round =>
    obtain ⟨k, hk, rfl, rfl, rfl, hz⟩ := hrel
    have HZ := Lib.hid hz
    clear hz
    cases k with
    | zero =>
      have HT : Hid (digs (val l) = []) := by
        have := trim_digs HL.out (Nat.zero_le _) HZ.out (fun x h => absurd h (Nat.lt_irrefl 0))
        rw [← this]; rfl
      cases a with
      | none =>
        have h0 := HNIL.out rfl
        subst h0
        obtain rfl : l = [] := List.length_eq_zero_iff.1 (by omega)
        have hap := fun w => app_nil w
        go_wp2_with fail
        go_ret
        exact ⟨_, rfl, World.ownsRow_nil _ _ _ _, Below.refl _ _⟩
      | some ad =>
        go_wp2_with (at_builtin; refine wpList_append_own _ rfl _ _ 22 rfl w.heap.size 68 i0 (.int .u32 0) 1 4 Tryd.underlying22 hi hz0 hz1 hz2 rfl (by decide) (.slice none 0 0) 0 [] rfl (World.ownsRow_nil _ _ _ _) ad 0 cap [] rfl rfl ?c1 ?c2 ?c3 ?c4 ?c5 ?_)
        case c1 => simp
        case c2 => simp
        case c3 => unfold maxLen; omega
        case c4 => omega
        case c5 => omega
        intro v' w1 hown' hgrow _
        have HX : Hid (w1.ownsRow w.heap.size 68 1 v' 0 [] ∧ Below w.heap.size w w1) := ⟨hown', (Below.refl _ _).grown hgrow (Nat.le_refl _) (by simp [Value.ownBlock])⟩
        clear hown' hgrow
        go_wp2_with fail
        go_ret
        exact ⟨_, rfl, by rw [HT.out]; exact HX.out.1, HX.out.2⟩
    | succ k =>
      obtain ⟨x, hx⟩ : ∃ x, l[k]? = some x := ⟨_, List.getElem?_eq_getElem (by omega)⟩
      obtain ⟨b, off, rfl, hb, hc⟩ := HRD.out (by omega)
      have hck := hc k x hx
      have hxB := HL.out.get hx
      rw [B_def] at hxB
      by_cases hx0 : x = 0
      · subst hx0
        have HZ2 : Hid (∀ i x, k ≤ i → l[i]? = some x → x = 0) := by
          intro i y hi hy
          by_cases e : i = k
          · subst e; rw [hx] at hy; exact (Option.some.inj hy).symm
          · exact HZ.out i y (by omega) hy
        have HC := Lib.hid hc
        clear hc hx HZ
        go_wp2_with fail
        go_roundg k
        case measure => omega
        case rel => exact ⟨k, by omega, rfl, by go_num, rfl, HZ2.out⟩
      · have hxb : ((x : Int) == 0) = false := by rw [beq_eq_false_iff_ne]; omega
        have HT : Hid (l.take (k + 1) = digs (val l)) := trim_digs HL.out hk HZ.out (fun y _ hy => by rw [Nat.add_sub_cancel, hx] at hy; have := Option.some.inj hy; omega)
        have HC := Lib.hid hc
        clear hc hx HZ hx0
        go_wp2_with (at_builtin; refine wpList_append_own _ rfl _ _ 22 rfl w.heap.size 68 i0 (.int .u32 0) 1 4 Tryd.underlying22 hi hz0 hz1 hz2 rfl (by decide) (.slice none 0 0) 0 [] rfl (World.ownsRow_nil _ _ _ _) ⟨b, off, none⟩ (k + 1) cap (limbCells (l.take (k + 1))) rfl ?c6 ?d1 ?d2 ?d3 ?d4 ?d5 ?_)
        case c6 => rw [limbCells_length, List.length_take]; omega
        case d1 =>
          intro j u hu
          rw [addr_add]
          have hj : j < k + 1 := by
            have := (List.getElem?_eq_some_iff.1 hu).1
            rw [limbCells_length, List.length_take] at this
            omega
          obtain ⟨y, hy⟩ : ∃ y, l[j]? = some y := ⟨_, List.getElem?_eq_getElem (by omega)⟩
          rw [limbCells_get (by rw [List.getElem?_take_of_lt hj]; exact hy)] at hu
          rw [← hu]
          exact HC.out j y hy
        case d2 => exact limbCells_one _
        case d3 => unfold maxLen; omega
        case d4 => omega
        case d5 => omega
        intro v' w1 hown' hgrow _
        have HX : Hid (w1.ownsRow w.heap.size 68 1 v' (l.take (k + 1)).length (limbCells (l.take (k + 1))) ∧ Below w.heap.size w w1) := ⟨by rw [List.length_take, Nat.min_eq_left hk]; exact hown', (Below.refl _ _).grown hgrow (Nat.le_refl _) (by simp [Value.ownBlock])⟩
        clear hown' hgrow
        go_wp2_with fail
        go_ret
        exact ⟨_, rfl, by rw [← HT.out]; exact HX.out.1, HX.out.2⟩

/-- Where a slice lies. -/
def Fr (base : Nat) (a : Option Addr) : Prop := ∀ ad, a = some ad → base ≤ ad.block
theorem Fr.mono {b b' : Nat} {a : Option Addr} (h : Fr b a) (hb : b' ≤ b) : Fr b' a := fun ad e => Nat.le_trans hb (h ad e)
theorem Fr.of_owns {w : World} {base e n cap : Nat} {a : Option Addr} {xs : List Value} (h : w.ownsRow base e 1 (.slice a n cap) n xs) : Fr base a := by
  intro ad e
  subst e
  exact (h.lt ad.block rfl).1
theorem Mg.store {w : World} {a : Option Addr} {n cap base : Nat} {l : List Nat} (h : Mg w (.slice a n cap) l) (hf : Fr base a) {p : Addr} (hp : p.block < base) (u : Value) : Mg (w.setCell p u) (.slice a n cap) l := by
  obtain ⟨⟨a', cap', h0, h1, h2, h3⟩, hl⟩ := h
  injection h0 with e1 e2 e3
  subst e1 e3
  refine ⟨⟨a, cap, by rw [e2], h1, h2, fun hx => ?_⟩, hl⟩
  obtain ⟨b, off, rfl, hb, hc⟩ := h3 hx
  have hne : b ≠ p.block := by have := hf _ rfl; simp only at this; omega
  refine ⟨b, off, rfl, by simpa [World.setCell] using hb, fun j u' hj => ?_⟩
  rw [World.cell?_of_block (w := w) (a := ⟨b, off + j, none⟩) (Below.heap_setCell _ _ _ _ hne)]
  exact hc j u' hj
/-- Old cells and marks read as before. -/
theorem bcell {W w1 : World} (hb : Below W.heap.size W w1) : (∀ b o, b < W.heap.size → w1.cell? ⟨b, o, none⟩ = W.cell? ⟨b, o, none⟩) ∧ (∀ b o, b < W.heap.size → w1.frozen? ⟨b, o, none⟩ = W.frozen? ⟨b, o, none⟩) :=
  ⟨fun b o h => hb.cell (p := ⟨b, o, none⟩) h, fun b o h => hb.frozen (p := ⟨b, o, none⟩) h⟩
theorem below_call {B : Nat} {w W w1 : World} (h : Below B w W) (hb : Below W.heap.size W w1) (hB : B ≤ W.heap.size) : Below B w w1 := h.trans (hb.mono hB)

/-- An Int (its sign, its slice) that denotes z, with at most k limbs. -/
def IsZ (w : World) (s : Bool) (a : Option Addr) (n cap : Nat) (z : Int) (k : Nat) : Prop :=
  ∃ l, l.length = n ∧ Mg w (.slice a n cap) l ∧ n ≤ k ∧ z = if s then -(val l : Int) else (val l : Int)
/-- The canonical Int that denotes z. -/
def Can (w : World) (s : Bool) (a : Option Addr) (n cap : Nat) (z : Int) : Prop := s = decide (z < 0) ∧ n = (digs z.natAbs).length ∧ Mg w (.slice a n cap) (digs z.natAbs)
/-- The number of limbs. -/
def sz (z : Int) : Nat := (digs z.natAbs).length
theorem Can.isZ {w : World} {s : Bool} {a : Option Addr} {n cap : Nat} {z : Int} (h : Can w s a n cap z) : IsZ w s a n cap z (sz z) := by
  obtain ⟨rfl, h2, h3⟩ := h
  refine ⟨_, h2.symm, h3, by rw [h2]; exact Nat.le_refl _, ?_⟩
  rw [val_digs]
  by_cases h : z < 0
  · rw [decide_eq_true h]; simp; omega
  · rw [decide_eq_false h]; simp; omega
theorem IsZ.below {w w' : World} {s : Bool} {a : Option Addr} {n cap : Nat} {z : Int} {k : Nat} (h : IsZ w s a n cap z k) (hb : Below w.heap.size w w') : IsZ w' s a n cap z k := by
  obtain ⟨l, h1, h2, h3, h4⟩ := h
  exact ⟨l, h1, h2.below hb, h3, h4⟩
theorem IsZ.mono {w : World} {s : Bool} {a : Option Addr} {n cap : Nat} {z : Int} {k m : Nat} (h : IsZ w s a n cap z k) (hm : k ≤ m) : IsZ w s a n cap z m := by
  obtain ⟨l, h1, h2, h3, h4⟩ := h
  exact ⟨l, h1, h2, Nat.le_trans h3 hm, h4⟩
theorem Can.below {w w' : World} {s : Bool} {a : Option Addr} {n cap : Nat} {z : Int} (h : Can w s a n cap z) (hb : Below w.heap.size w w') : Can w' s a n cap z := ⟨h.1, h.2.1, h.2.2.below hb⟩
theorem Can.store {w : World} {s : Bool} {a : Option Addr} {n cap base : Nat} {z : Int} (h : Can w s a n cap z) (hf : Fr base a) {p : Addr} (hp : p.block < base) (u : Value) : Can (w.setCell p u) s a n cap z := ⟨h.1, h.2.1, h.2.2.store hf hp u⟩
/-- A call that hands back the canonical Int of z, in new memory. -/
def ZPost (z : Int) (w : World) (e : Ending) (w' : World) : Prop := ∃ s a n cap, e = .returned (.agg #[.bool s, .slice a n cap]) ∧ Can w' s a n cap z ∧ Fr w.heap.size a ∧ Below w.heap.size w w'
theorem signed_neg {neg : Bool} {n : Nat} {z : Int} (h : z = if neg then -(n : Int) else (n : Int)) : z.natAbs = n ∧ decide (z < 0) = (neg && decide (0 < n)) := by
  cases neg
  · simp only [Bool.false_eq_true, if_false] at h
    refine ⟨by omega, ?_⟩
    rw [decide_eq_false (by omega)]; rfl
  · simp only [if_true] at h
    refine ⟨by omega, ?_⟩
    rcases Nat.eq_zero_or_pos n with h0 | h0
    · rw [decide_eq_false (by omega), decide_eq_false (by omega)]; rfl
    · rw [decide_eq_true (by omega), decide_eq_true h0]; rfl
theorem digs_pos (n : Nat) : decide (0 < (digs n).length) = decide (0 < n) := by
  rcases Nat.eq_zero_or_pos n with h | h
  · subst h; rfl
  · rw [decide_eq_true h, decide_eq_true]
    rw [digs_step (by omega)]; simp
/-- The end of a function whose result lies in block R. -/
theorem zfin {w w1 : World} {s : Bool} {a : Option Addr} {n cap base R : Nat} {z : Int} (h1 : Below w.heap.size w w1) (hR : w.heap.size ≤ R) (hlt : R < base) (hc : Can w1 s a n cap z) (hf : Fr base a) (x y : Value) :
    ZPost z w (.returned (.agg #[.bool s, .slice a n cap])) ((w1.setCell ⟨R, 0, none⟩ x).setCell ⟨R, 1, none⟩ y) :=
  ⟨s, a, n, cap, rfl, (hc.store hf (p := ⟨R, 0, none⟩) hlt x).store hf (p := ⟨R, 1, none⟩) hlt y, hf.mono (by omega), (h1.setCell (p := ⟨R, 0, none⟩) hR x).setCell (p := ⟨R, 1, none⟩) hR y⟩

theorem heap_store2 {w : World} {R : Nat} {a b : Value} {t : TypeId} {fr : Nat × Nat} (h : w.heap[R]? = some (.cells #[a, b] t fr)) (x y : Value) :
    ((w.setCell ⟨R, 0, none⟩ x).setCell ⟨R, 1, none⟩ y).heap[R]? = some (.cells #[x, y] t fr) := by
  simp [World.setCell, Array.getElem?_modify, h]
/-- The result that lies in block R. -/
theorem zres {fn : Func} {p : Tmp} {w : World} {R : Nat} {x y : Value} {t : TypeId} {fr : Nat × Nat} {tmps : Array Value} (h : fn.results = #[.cell p 24]) (hp : tmps.getD p undef = .pointer (some ⟨R, 0, none⟩)) (hg : w.heap[R]? = some (.cells #[x, y] t fr)) :
    (results fn tmps).run Tryd.prog w = .ok (.agg #[x, y]) w :=
  results_cell_row h tmps w R t #[x, y] fr _ hp hg Tryd.underlying24 rfl (by kernel_rfl)

set_option maxHeartbeats 1000000 in
theorem zmake_any (neg : Bool) (v : Value) (l : List Nat) (w : World) (z : Int) (h : Mg w v l) (hlen : l.length ≤ 1099511627776) (hz : z = if neg then -(val l : Int) else (val l : Int)) :
    Calls Tryd.prog 57 #[.bool neg, v] w (ZPost z w) := by
  obtain ⟨ha, hd⟩ := signed_neg hz
  rw [← digs_pos] at hd
  obtain ⟨L, hL⟩ : ∃ L, digs (val l) = L := ⟨_, rfl⟩
  have hb0 := (Below.refl w.heap.size w).alloc (Nat.le_refl _) (.cells #[.bool false, .slice none 0 0] 24)
  have C := Lib.hid (ztrim_any v l (w.alloc (.cells #[.bool false, .slice none 0 0] 24)) (h.below hb0) hlen)
  have HLm := Lib.hid (lm_digs (val l))
  have HF : Hid (decide (z < 0) = (neg && decide (0 < L.length)) ∧ digs z.natAbs = L) := by rw [ha, hL, ← hL]; exact ⟨hd, rfl⟩
  rw [hL] at C HLm
  have HB0 := Lib.hid hb0
  clear hz ha hd hL h hb0
  cases neg
  all_goals
    go_enter Tryd.func57, Tryd.ntmps57
    go_wp2_with fail
    refine C.out.mono ?_
    rintro e w1 ⟨v1, rfl, hown, hb⟩
    obtain ⟨a1, cap1, hv1, _⟩ := (Mg.of_owns hown HLm.out).form
    subst hv1
    have HM := Lib.hid (Mg.of_owns hown HLm.out)
    have HFr := Lib.hid (Fr.of_owns hown)
    obtain ⟨hc1, hf1⟩ := bcell hb
    have hs1 := hb.size
    simp at hs1
    have HB := Lib.hid (below_call HB0.out hb (by simp))
    have HR : Hid (w1.heap[w.heap.size]? = some (.cells #[.bool false, .slice none 0 0] 24 (0, 0))) := by show _ = _; rw [hb.block _ (by simp)]; exact heap_alloc_new w _
    clear hown hb
    go_wp2_with fail
    refine bodyPost_ret (v := .agg #[.bool (decide (z < 0)), .slice a1 L.length cap1]) (by rw [HF.out.1]; exact zres rfl rfl (heap_store2 HR.out _ _)) rfl ?_
    refine zfin HB.out (Nat.le_refl _) (base := w.heap.size + 1) (Nat.lt_succ_self _) ⟨rfl, by rw [HF.out.2], by rw [HF.out.2]; exact HM.out⟩ ?_ _ _
    have := HFr.out
    simpa using this

theorem mg_new {W : World} {R c : Nat} {T : TypeId} (l : List Nat) (hR : R = W.heap.size) (hl : Lm l) (hc : l.length ≤ c) (hm : c ≤ maxLen) : Mg (W.alloc (.cells (limbCells l).toArray T)) (.slice (some ⟨R, 0, none⟩) l.length c) l := by
  refine ⟨⟨_, c, rfl, hc, ⟨hm, fun h => by cases h⟩, fun _ => ⟨R, 0, rfl, by simp [hR], fun j u hj => ?_⟩⟩, hl⟩
  have := cells_new W R hR (limbCells l) T j u hj
  rwa [addr_add] at this
theorem val_two (u : Nat) : val [u % B, u / B] = u := by
  simp only [val, Nat.mul_zero, Nat.add_zero]; exact Nat.mod_add_div u B
theorem lm_two {u : Nat} (hu : u < 18446744073709551616) : Lm [u % B, u / B] := by
  have h1 : u % B < B := Nat.mod_lt _ B_pos
  have h2 : u / B < B := by rw [B_def]; omega
  exact Lm.cons h1 (Lm.cons h2 Lm.nil)

set_option maxHeartbeats 1000000 in
theorem zword_any (neg : Bool) (u : Nat) (w : World) (z : Int) (hu : u < 18446744073709551616) (hz : z = if neg then -(u : Int) else (u : Int)) :
    Calls Tryd.prog 58 #[.bool neg, .int .u64 u] w (ZPost z w) := by
  have hm := mg_new (W := w.alloc (.cells #[.bool false, .slice none 0 0] 24)) (R := w.heap.size + 1) (c := 2) (T := 68) [u % B, u / B] (by simp) (lm_two hu) (by simp) (by unfold maxLen; omega)
  have C := Lib.hid (zmake_any neg _ _ _ z hm (by simp) (by rw [val_two]; exact hz))
  have e : (limbCells [u % B, u / B]).toArray = #[.int .u32 ((u : Int) % 4294967296), .int .u32 ((u : Int) / 4294967296)] := by simp [limbCells, B_def]
  rw [e] at C
  have HB0 := Lib.hid (((Below.refl w.heap.size w).alloc (Nat.le_refl _) (.cells #[.bool false, .slice none 0 0] 24)).alloc (by simp) (.cells #[.int .u32 ((u : Int) % 4294967296), .int .u32 ((u : Int) / 4294967296)] 68))
  clear hm hz e
  go_enter Tryd.func58, Tryd.ntmps58
  go_wp2_with fail
  refine C.out.mono ?_
  rintro e w1 ⟨s1, a1, n1, cap1, rfl, hz1, hfr1, hb⟩
  obtain ⟨hc1, hf1⟩ := bcell hb
  have hs1 := hb.size
  simp at hs1
  have HZ := Lib.hid hz1
  have HFr := Lib.hid hfr1
  have HB := Lib.hid (below_call HB0.out hb (by simp; omega))
  have HR : Hid (w1.heap[w.heap.size]? = some (.cells #[.bool false, .slice none 0 0] 24 (0, 0))) := by show _ = _; rw [hb.block _ (by simp; omega), Below.heap_alloc _ _ _ (by simp)]; exact heap_alloc_new w _
  clear hb hz1 hfr1
  go_wp2_with fail
  refine bodyPost_ret (v := .agg #[.bool s1, .slice a1 n1 cap1]) (zres rfl rfl (heap_store2 HR.out _ _)) rfl ?_
  exact zfin HB.out (Nat.le_refl _) (base := w.heap.size + 1) (Nat.lt_succ_self _) HZ.out (HFr.out.mono (by simp)) _ _

theorem u64_neg {n : Int} (h1 : -9223372036854775808 ≤ n) (h2 : n < 0) : IntKind.u64.wrap (-(IntKind.u64.wrap n)) = -n := by
  rw [IntKind.wrap_u64, IntKind.wrap_u64]; omega
theorem size_setCell (w : World) (p : Addr) (u : Value) : (w.setCell p u).heap.size = w.heap.size := by simp [World.setCell]
theorem cell_store2 {w : World} {R : Nat} {a b : Value} (c0 : w.cell? ⟨R, 0, none⟩ = some a) (c1 : w.cell? ⟨R, 1, none⟩ = some b) (x y : Value) :
    ((w.setCell ⟨R, 0, none⟩ x).setCell ⟨R, 1, none⟩ y).cell? ⟨R, 0, none⟩ = some x ∧ ((w.setCell ⟨R, 0, none⟩ x).setCell ⟨R, 1, none⟩ y).cell? ⟨R, 1, none⟩ = some y := by
  unfold World.cell? at *
  simp only [World.setCell, Array.getElem?_modify]
  cases hh : w.heap[R]? with
  | none => simp [hh] at c0
  | some o =>
    cases o with
    | cells cs t fr =>
      simp only [hh] at c0 c1
      simp at c0 c1
      have h0 := (Array.getElem?_eq_some_iff.1 c0).1
      have h1 := (Array.getElem?_eq_some_iff.1 c1).1
      simp [h0, h1]
    | _ => simp [hh] at c0
/-- The result that lies in block R, behind the store. -/
theorem zres2 {fn : Func} {p : Tmp} {w : World} {R : Nat} {x y a b : Value} {tmps : Array Value} (h : fn.results = #[.cell p 24]) (hp : tmps.getD p undef = .pointer (some ⟨R, 0, none⟩)) (c0 : w.cell? ⟨R, 0, none⟩ = some a) (c1 : w.cell? ⟨R, 1, none⟩ = some b) :
    (results fn tmps).run Tryd.prog ((w.setCell ⟨R, 0, none⟩ x).setCell ⟨R, 1, none⟩ y) = .ok (.agg #[x, y]) ((w.setCell ⟨R, 0, none⟩ x).setCell ⟨R, 1, none⟩ y) := by
  obtain ⟨d0, d1⟩ := cell_store2 c0 c1 x y
  have hp' : tmps[p]?.getD undef = .pointer (some ⟨R, 0, none⟩) := by simpa using hp
  simp [results, h, hp', asAddr, go_sem, d0, d1]
set_option maxHeartbeats 1000000 in
theorem zsmall_any (n : Int) (w : World) (h1 : -9223372036854775808 ≤ n) (h2 : n ≤ 9223372036854775807) :
    Calls Tryd.prog 39 #[.int .i64 n] w (ZPost n w) := by
  have HB0 := Lib.hid ((Below.refl w.heap.size w).alloc (Nat.le_refl _) (.cells #[.bool false, .slice none 0 0] 24))
  obtain ⟨u, hu⟩ : ∃ u : Nat, n.natAbs = u := ⟨_, rfl⟩
  by_cases hn : n < 0
  · have C := Lib.hid (zword_any true u (w.alloc (.cells #[.bool false, .slice none 0 0] 24)) n (by omega) (by simp; omega))
    rw [show (u : Int) = -n by omega] at C
    have hu64 := u64_neg h1 hn
    clear hu
    go_enter Tryd.func39, Tryd.ntmps39
    go_wp2_with fail
    refine (C.out).mono ?_
    rintro e w1 ⟨s1, a1, n1, cap1, rfl, hz1, hfr1, hb1⟩
    obtain ⟨hc1, hf1⟩ := bcell hb1
    have hs1 := hb1.size
    repeat first | rw [World.size_alloc] at hs1 | rw [size_setCell] at hs1
    have HZ1 := Lib.hid hz1
    have HFr1 := Lib.hid hfr1
    have HB1 := Lib.hid (below_call HB0.out hb1 (by first | omega | (simp; done) | (simp; omega)))
    have HbN1 := Lib.hid hb1
    clear hz1 hfr1 hb1
    go_wp2_with fail
    refine bodyPost_ret (v := .agg #[.bool s1, .slice a1 n1 cap1]) (zres2 rfl rfl (w := w1) (a := .bool false) (b := .slice none 0 0) (R := w.heap.size) (by simp (disch := first | omega | (simp; done) | (simp; omega)) [hc1]) (by simp (disch := first | omega | (simp; done) | (simp; omega)) [hc1])) rfl ?_
    exact zfin HB1.out (by first | omega | (simp; done) | (simp; omega)) (R := w.heap.size) (base := w.heap.size + 1) (Nat.lt_succ_self _) HZ1.out (HFr1.out.mono (by first | omega | (simp; done) | (simp; omega))) _ _
  · have C := Lib.hid (zword_any false u (w.alloc (.cells #[.bool false, .slice none 0 0] 24)) n (by omega) (by simp; omega))
    rw [show (u : Int) = n by omega] at C
    clear hu
    go_enter Tryd.func39, Tryd.ntmps39
    go_wp2_with fail
    refine (C.out).mono ?_
    rintro e w1 ⟨s1, a1, n1, cap1, rfl, hz1, hfr1, hb1⟩
    obtain ⟨hc1, hf1⟩ := bcell hb1
    have hs1 := hb1.size
    repeat first | rw [World.size_alloc] at hs1 | rw [size_setCell] at hs1
    have HZ1 := Lib.hid hz1
    have HFr1 := Lib.hid hfr1
    have HB1 := Lib.hid (below_call HB0.out hb1 (by first | omega | (simp; done) | (simp; omega)))
    have HbN1 := Lib.hid hb1
    clear hz1 hfr1 hb1
    go_wp2_with fail
    refine bodyPost_ret (v := .agg #[.bool s1, .slice a1 n1 cap1]) (zres2 rfl rfl (w := w1) (a := .bool false) (b := .slice none 0 0) (R := w.heap.size) (by simp (disch := first | omega | (simp; done) | (simp; omega)) [hc1]) (by simp (disch := first | omega | (simp; done) | (simp; omega)) [hc1])) rfl ?_
    exact zfin HB1.out (by first | omega | (simp; done) | (simp; omega)) (R := w.heap.size) (base := w.heap.size + 1) (Nat.lt_succ_self _) HZ1.out (HFr1.out.mono (by first | omega | (simp; done) | (simp; omega))) _ _

set_option maxHeartbeats 1000000 in
theorem zneg_any (s : Bool) (a : Option Addr) (n cap : Nat) (z : Int) (k : Nat) (w : World) (h : IsZ w s a n cap z k) (hk : k ≤ 1099511627776) :
    Calls Tryd.prog 74 #[.agg #[.bool s, .slice a n cap]] w (ZPost (-z) w) := by
  have hb0 := ((Below.refl w.heap.size w).alloc (Nat.le_refl _) (.cells #[.bool s, .slice a n cap] 24)).alloc (by first | omega | (simp; done) | (simp; omega)) (.cells #[.bool false, .slice none 0 0] 24)
  obtain ⟨l, hl, hm, hn, hz⟩ := h
  have C := Lib.hid (zmake_any (!s) _ _ _ (-z) (hm.below hb0) (by omega) (by rw [hz]; cases s <;> simp))
  have HB0 := Lib.hid hb0
  clear hm hl hz hb0
  go_enter Tryd.func74, Tryd.ntmps74
  go_wp2_with fail
  refine (C.out).mono ?_
  rintro e w1 ⟨s1, a1, n1, cap1, rfl, hz1, hfr1, hb1⟩
  obtain ⟨hc1, hf1⟩ := bcell hb1
  have hs1 := hb1.size
  repeat first | rw [World.size_alloc] at hs1 | rw [size_setCell] at hs1
  have HZ1 := Lib.hid hz1
  have HFr1 := Lib.hid hfr1
  have HB1 := Lib.hid (below_call HB0.out hb1 (by first | omega | (simp; done) | (simp; omega)))
  have HbN1 := Lib.hid hb1
  clear hz1 hfr1 hb1
  go_wp2_with fail
  refine bodyPost_ret (v := .agg #[.bool s1, .slice a1 n1 cap1]) (zres2 rfl rfl (w := w1) (a := .bool false) (b := .slice none 0 0) (R := (w.heap.size + 1)) (by simp (disch := first | omega | (simp; done) | (simp; omega)) [hc1]) (by simp (disch := first | omega | (simp; done) | (simp; omega)) [hc1])) rfl ?_
  exact zfin HB1.out (by first | omega | (simp; done) | (simp; omega)) (R := (w.heap.size + 1)) (base := (w.heap.size + 1) + 1) (Nat.lt_succ_self _) HZ1.out (HFr1.out.mono (by first | omega | (simp; done) | (simp; omega))) _ _
end Go.Proofs.YtnhbdldchoepfaaDoor


import Derived.Test.YtpiflllcjgpkhaaGreatDoorMem
import Derived.Test.YtpiflllcjgpkhaaGreatDoorProg
import Derived.Test.YtpiflllcjgpkhaaGreatDoorL
import Derived.Deep.QuietTactic
import Derived.BigQuiet
import Derived.Deep.RegionHeld3
import Derived.Laws.BitsAllLaws
set_option maxRecDepth 3000
namespace Go.Proofs.YtpiflllcjgpkhaaGreatDoor
open Go.RowKit Limb

theorem ret_int' {k : IntKind} {a b : Int} (h : a = b) : Ending.returned (.int k a) = .returned (.int k b) := by rw [h]
theorem ret_bool' {a b : Bool} (h : a = b) : Ending.returned (.bool a) = .returned (.bool b) := by rw [h]
def limbCells (l : List Nat) : List Value := l.map fun x => .int .u32 (x : Nat)
theorem limbCells_length (l : List Nat) : (limbCells l).length = l.length := by simp [limbCells]
theorem limbCells_get {l : List Nat} {i x : Nat} (h : l[i]? = some x) : (limbCells l)[i]? = some (.int .u32 (x : Nat)) := by simp [limbCells, h]
/-- A slice of limbs. -/
def Mg (w : World) (v : Value) (l : List Nat) : Prop := Rd w v l.length (limbCells l) ∧ Lm l
theorem Mg.below {w w' : World} {v : Value} {l : List Nat} (h : Mg w v l) (hb : Below w.heap.size w w') : Mg w' v l := ⟨h.1.below hb, h.2⟩
/-- The slice written out: nil, or an address with its cells. -/
theorem Mg.form {w : World} {v : Value} {l : List Nat} (h : Mg w v l) : ∃ a cap, v = .slice a l.length cap ∧ l.length ≤ cap ∧ cap ≤ maxLen ∧ (a = none → cap = 0) ∧
    (0 < l.length → ∃ b off, a = some ⟨b, off, none⟩ ∧ b < w.heap.size ∧ ∀ j x, l[j]? = some x → w.cell? ⟨b, off + j, none⟩ = some (.int .u32 (x : Nat))) := by
  obtain ⟨⟨a, cap, rfl, h1, ⟨h2, h2'⟩, h3⟩, _⟩ := h
  refine ⟨a, cap, rfl, h1, h2, h2', fun hl => ?_⟩
  obtain ⟨b, off, rfl, hb, hc⟩ := h3 (fun e => by have := congrArg List.length e; rw [limbCells_length] at this; simp at this; simp [this] at hl)
  exact ⟨b, off, rfl, hb, fun j x hj => hc j _ (limbCells_get hj)⟩
theorem Mg.cell {w : World} {b off n cap : Nat} {l : List Nat} (h : Mg w (.slice (some ⟨b, off, none⟩) n cap) l) {j x : Nat} (hx : l[j]? = some x) : w.cell? ⟨b, off + j, none⟩ = some (.int .u32 (x : Nat)) := by
  obtain ⟨a, cap', hv, _, _, _, hr⟩ := h.form
  injection hv with e1 e2 e3
  subst e1
  obtain ⟨b', off', hv', _, hc⟩ := hr (by have := (List.getElem?_eq_some_iff.1 hx).1; omega)
  injection hv' with hv'
  injection hv' with e4 e5
  subst e4 e5
  exact hc j x hx
theorem Mg.of_owns {w : World} {base e : Nat} {v : Value} {l : List Nat} (h : w.ownsRow base e 1 v l.length (limbCells l)) (hl : Lm l) : Mg w v l := ⟨Rd.of_owns h, hl⟩
/-- Where a slice lies. -/
def Fr (base : Nat) (a : Option Addr) : Prop := ∀ ad, a = some ad → base ≤ ad.block
theorem Fr.mono {b b' : Nat} {a : Option Addr} (h : Fr b a) (hb : b' ≤ b) : Fr b' a := fun ad e => Nat.le_trans hb (h ad e)
theorem Fr.of_owns {w : World} {base e n cap : Nat} {a : Option Addr} {xs : List Value} (h : w.ownsRow base e 1 (.slice a n cap) n xs) : Fr base a := by
  intro ad e
  subst e
  exact (h.lt ad.block rfl).1
theorem Mg.store {w : World} {a : Option Addr} {n cap base : Nat} {l : List Nat} (h : Mg w (.slice a n cap) l) (hf : Fr base a) {p : Addr} (hp : p.block < base) (u : Value) : Mg (w.setCell p u) (.slice a n cap) l := by
  obtain ⟨⟨a', cap', h0, h1, h2, h3⟩, hl⟩ := h
  injection h0 with e1 e2 e3
  subst e1 e3
  refine ⟨⟨a, cap, by rw [e2], h1, h2, fun hx => ?_⟩, hl⟩
  obtain ⟨b, off, rfl, hb, hc⟩ := h3 hx
  have hne : b ≠ p.block := by have := hf _ rfl; simp only at this; omega
  refine ⟨b, off, rfl, by simpa [World.setCell] using hb, fun j u' hj => ?_⟩
  rw [World.cell?_of_block (w := w) (a := ⟨b, off + j, none⟩) (Below.heap_setCell _ _ _ _ hne)]
  exact hc j u' hj
theorem below_call {B : Nat} {w W w1 : World} (h : Below B w W) (hb : Below W.heap.size W w1) (hB : B ≤ W.heap.size) : Below B w w1 := h.trans (hb.mono hB)

/-- An Int (its sign, its slice) that denotes z, with at most k limbs. -/
def IsZ (w : World) (s : Bool) (a : Option Addr) (n cap : Nat) (z : Int) (k : Nat) : Prop :=
  ∃ l, l.length = n ∧ Mg w (.slice a n cap) l ∧ n ≤ k ∧ z = if s then -(val l : Int) else (val l : Int)
/-- The canonical Int that denotes z. -/
def Can (w : World) (s : Bool) (a : Option Addr) (n cap : Nat) (z : Int) : Prop := s = decide (z < 0) ∧ n = (digs z.natAbs).length ∧ Mg w (.slice a n cap) (digs z.natAbs)
/-- The number of limbs. -/
def sz (z : Int) : Nat := (digs z.natAbs).length
theorem IsZ.below {w w' : World} {s : Bool} {a : Option Addr} {n cap : Nat} {z : Int} {k : Nat} (h : IsZ w s a n cap z k) (hb : Below w.heap.size w w') : IsZ w' s a n cap z k := by
  obtain ⟨l, h1, h2, h3, h4⟩ := h
  exact ⟨l, h1, h2.below hb, h3, h4⟩
theorem IsZ.mono {w : World} {s : Bool} {a : Option Addr} {n cap : Nat} {z : Int} {k m : Nat} (h : IsZ w s a n cap z k) (hm : k ≤ m) : IsZ w s a n cap z m := by
  obtain ⟨l, h1, h2, h3, h4⟩ := h
  exact ⟨l, h1, h2, Nat.le_trans h3 hm, h4⟩
theorem Can.below {w w' : World} {s : Bool} {a : Option Addr} {n cap : Nat} {z : Int} (h : Can w s a n cap z) (hb : Below w.heap.size w w') : Can w' s a n cap z := ⟨h.1, h.2.1, h.2.2.below hb⟩
theorem Can.store {w : World} {s : Bool} {a : Option Addr} {n cap base : Nat} {z : Int} (h : Can w s a n cap z) (hf : Fr base a) {p : Addr} (hp : p.block < base) (u : Value) : Can (w.setCell p u) s a n cap z := ⟨h.1, h.2.1, h.2.2.store hf hp u⟩
end Go.Proofs.YtpiflllcjgpkhaaGreatDoor

namespace Go.Proofs.YtpiflllcjgpkhaaGreatDoor
open Go.RowKit Limb

set_option maxHeartbeats 2000000 in
theorem zcmp_any (v1 v2 : Value) (l1 l2 : List Nat) (w : World) (h1 : Mg w v1 l1) (h2 : Mg w v2 l2) (hl1 : l1.length ≤ 1099511627776) (_hl2 : l2.length ≤ 1099511627776) :
    Calls Tryz.prog 48 #[v1, v2] w fun e w' => e = .returned (.int .i64 (cmpL l1 l2)) ∧ Below w.heap.size w w' := by
  have H1 := Lib.hid h1
  have H2 := Lib.hid h2
  obtain ⟨a1, cap1, rfl, _, _, _, _⟩ := h1.form
  obtain ⟨a2, cap2, rfl, _, _, _, _⟩ := h2.form
  clear h1 h2
  rcases Nat.lt_trichotomy l1.length l2.length with hlt | heq | hgt
  · have HC : Hid (cmpL l1 l2 = -1) := by show cmpL l1 l2 = -1; unfold cmpL; rw [if_pos hlt]
    have hb : ((l1.length : Int) != (l2.length : Int)) = true := by rw [bne_iff_ne]; omega
    go_enter Tryz.func48, Tryz.ntmps48
    go_wp2_with fail
    go_ret
    exact ⟨ret_int' HC.out.symm, Below.refl _ _⟩
  · have hb : ((l1.length : Int) != (l2.length : Int)) = false := by simp [heq]
    have HQ := Lib.hid heq
    clear heq
    go_enter Tryz.func48, Tryz.ntmps48
    go_wp2_with fail
    go_loopg [4, 5] l1.length (fun g s4 s5 wr => s5 = .int .i64 ((g : Int) - 1) ∧ g ≤ l1.length ∧ l1.drop g = l2.drop g ∧ Below w.heap.size w wr)
    case atStart => exact ⟨rfl, Nat.le_refl _, by rw [List.drop_eq_nil_of_le (Nat.le_refl _), List.drop_eq_nil_of_le (by rw [HQ.out]; exact Nat.le_refl _)], Below.refl _ _⟩
    case round =>
      obtain ⟨rfl, hg, hdr, hbx⟩ := hrel
      have HD := Lib.hid hdr
      have HBX := Lib.hid hbx
      clear hdr
      cases gk with
      | zero =>
        have HC : Hid (cmpL l1 l2 = 0) := by
          have : l1 = l2 := by simpa using HD.out
          show cmpL l1 l2 = 0
          rw [this, cmpL_same]
        clear hbx
        go_wp2_with fail
        go_ret
        exact ⟨ret_int' HC.out.symm, HBX.out⟩
      | succ g =>
        obtain ⟨x, hx⟩ : ∃ x, l1[g]? = some x := ⟨_, List.getElem?_eq_getElem (by omega)⟩
        obtain ⟨y, hy⟩ : ∃ y, l2[g]? = some y := ⟨_, List.getElem?_eq_getElem (by have := HQ.out; omega)⟩
        have hq := HQ.out
        obtain ⟨a1', cap1', hv1, _, _, _, hr1⟩ := (H1.out.below hbx).form
        obtain ⟨a2', cap2', hv2, _, _, _, hr2⟩ := (H2.out.below hbx).form
        injection hv1 with e1 e2 e3
        injection hv2 with e4 e5 e6
        subst e1 e3 e4 e6
        obtain ⟨b1, off1, rfl, hb1, hcl1⟩ := hr1 (by omega)
        obtain ⟨b2, off2, rfl, hb2, hcl2⟩ := hr2 (by omega)
        have c1 := hcl1 g x hx
        have c2 := hcl2 g y hy
        have hxB := H1.out.2.get hx
        have hyB := H2.out.2.get hy
        rw [B_def] at hxB hyB
        have hg2 : g < l2.length := by omega
        have hgi1 : (g : Int) < (l1.length : Int) := by omega
        have hgi2 : (g : Int) < (l2.length : Int) := by omega
        have HL1 := Lib.hid H1.out.2
        have HL2 := Lib.hid H2.out.2
        have HX := Lib.hid hx
        have HY := Lib.hid hy
        clear hcl1 hcl2 e2 e5 hbx hx hy hq
        rcases Nat.lt_trichotomy x y with hxy | hxy | hxy
        · have HC : Hid (cmpL l1 l2 = -1) := by
            have := val_lt_of_top HQ.out HL1.out HX.out HY.out hxy HD.out
            show cmpL l1 l2 = -1
            unfold cmpL
            rw [if_neg (by rw [HQ.out]; omega), if_neg (by rw [HQ.out]; omega), if_pos this]
          have hne : ((x : Int) != (y : Int)) = true := by rw [bne_iff_ne]; omega
          have hlti : decide (x < y) = true := decide_eq_true hxy
          go_wp2_with fail
          go_quiet (fail)
          go_wp2_with fail
          go_quiet (fail)
          go_wp2_with fail
          go_ret
          exact ⟨ret_int' HC.out.symm, by first | exact below_drewN HBX.out _ | exact below_drewN (below_drewN HBX.out _) _⟩
        · subst hxy
          have HD2 : Hid (l1.drop g = l2.drop g) := by
            have e1 := List.drop_eq_getElem_cons (l := l1) (i := g) (by omega)
            have e2 := List.drop_eq_getElem_cons (l := l2) (i := g) (by omega)
            show l1.drop g = l2.drop g
            rw [e1, e2, HD.out]
            congr 1
            rw [(List.getElem?_eq_some_iff.1 HX.out).2, (List.getElem?_eq_some_iff.1 HY.out).2]
          have hne : ((x : Int) != (x : Int)) = false := by simp
          go_wp2_with fail
          go_quiet (fail)
          go_wp2_with fail
          go_roundg g
          case measure => omega
          case rel => exact ⟨by go_num, by omega, HD2.out, below_drewN HBX.out _⟩
        · have HC : Hid (cmpL l1 l2 = 1) := by
            have := val_lt_of_top HQ.out.symm HL2.out HY.out HX.out hxy HD.out.symm
            show cmpL l1 l2 = 1
            unfold cmpL
            rw [if_neg (by rw [HQ.out]; omega), if_neg (by rw [HQ.out]; omega), if_neg (by omega), if_pos this]
          have hne : ((x : Int) != (y : Int)) = true := by rw [bne_iff_ne]; omega
          have hlti : decide (x < y) = false := decide_eq_false (by omega)
          go_wp2_with fail
          go_quiet (fail)
          go_wp2_with fail
          go_quiet (fail)
          go_wp2_with fail
          go_ret
          exact ⟨ret_int' HC.out.symm, by first | exact below_drewN HBX.out _ | exact below_drewN (below_drewN HBX.out _) _⟩
  · have HC : Hid (cmpL l1 l2 = 1) := by show cmpL l1 l2 = 1; unfold cmpL; rw [if_neg (by omega), if_pos hgt]
    have hb : ((l1.length : Int) != (l2.length : Int)) = true := by rw [bne_iff_ne]; omega
    go_enter Tryz.func48, Tryz.ntmps48
    go_wp2_with fail
    go_ret
    exact ⟨ret_int' HC.out.symm, Below.refl _ _⟩
end Go.Proofs.YtpiflllcjgpkhaaGreatDoor

namespace Go.Proofs.YtpiflllcjgpkhaaGreatDoor
open Go.RowKit Limb
end Go.Proofs.YtpiflllcjgpkhaaGreatDoor

namespace Go.Proofs.YtpiflllcjgpkhaaGreatDoor.Limb
/-! ### Doubling -/
def DblInv (l : List Nat) (c0 : Nat) (i : Nat) (O : List Nat) (c : Nat) : Prop := O.length = i ∧ Lm O ∧ c ≤ 1 ∧ val O + B ^ i * c = 2 * val (l.take i) + c0
theorem DblInv.start (l : List Nat) {c0 : Nat} (h : c0 ≤ 1) : DblInv l c0 0 [] c0 := ⟨rfl, Lm.nil, h, by simp [val]⟩
theorem DblInv.step {l : List Nat} {c0 i : Nat} {O : List Nat} {c x : Nat} (hl : Lm l) (h : DblInv l c0 i O c) (hx : l[i]? = some x) :
    DblInv l c0 (i + 1) (O ++ [(2 * x) % B + c]) (x / 2147483648) := by
  obtain ⟨a1, a2, a3, a4⟩ := h
  have b1 := hl.get hx
  refine ⟨by simp [a1], lm_snoc a2 (by rw [B_def] at *; omega), by rw [B_def] at b1; omega, ?_⟩
  rw [val_snoc, val_take_succ, a1, hx, Option.getD_some]
  have : B ^ i * ((2 * x) % B + c) + B ^ (i + 1) * (x / 2147483648) = B ^ i * (2 * x + c) := by
    rw [Nat.pow_succ, Nat.mul_assoc, ← Nat.mul_add]
    congr 1
    rw [B_def] at *; omega
  rw [Nat.add_assoc, this, Nat.mul_add, Nat.mul_add, Nat.mul_left_comm (B ^ i) 2 x]
  omega
theorem DblInv.done {l : List Nat} {c0 i : Nat} {O : List Nat} {c : Nat} (h : DblInv l c0 i O c) (h1 : l.length ≤ i) : Lm (O ++ [c]) ∧ val (O ++ [c]) = 2 * val l + c0 := by
  obtain ⟨a1, a2, a3, a4⟩ := h
  refine ⟨lm_snoc a2 (by rw [B_def]; omega), ?_⟩
  rw [val_snoc, a1, a4, List.take_of_length_le h1]
end Go.Proofs.YtpiflllcjgpkhaaGreatDoor.Limb
namespace Go.Proofs.YtpiflllcjgpkhaaGreatDoor
open Go.RowKit Limb
end Go.Proofs.YtpiflllcjgpkhaaGreatDoor

namespace Go.Proofs.YtpiflllcjgpkhaaGreatDoor
open Go.RowKit Limb
end Go.Proofs.YtpiflllcjgpkhaaGreatDoor

namespace Go.Proofs.YtpiflllcjgpkhaaGreatDoor
open Go.RowKit Limb
/-! ### Equality of canonical numbers -/
theorem can_same {w : World} {s : Bool} {a : Option Addr} {n cap : Nat} {z : Int} {s' : Bool} {a' : Option Addr} {n' cap' : Nat} {z' : Int} (h : Can w s a n cap z) (h' : Can w s' a' n' cap' z') :
    (z = z' ∧ s = s' ∧ n = n' ∧ cmpL (digs z.natAbs) (digs z'.natAbs) = 0) ∨ (z ≠ z' ∧ (s ≠ s' ∨ n ≠ n' ∨ cmpL (digs z.natAbs) (digs z'.natAbs) ≠ 0)) := by
  obtain ⟨e1, e2, _⟩ := h
  obtain ⟨e3, e4, _⟩ := h'
  by_cases hz : z = z'
  · left; subst hz; exact ⟨rfl, e1.trans e3.symm, e2.trans e4.symm, cmpL_same _⟩
  · right
    refine ⟨hz, ?_⟩
    by_cases hs : s = s'
    · right; right
      rw [cmpL_digs]
      have hd : decide (z < 0) = decide (z' < 0) := by rw [← e1, ← e3, hs]
      have hd' := decide_eq_decide.1 hd
      by_cases c1 : z.natAbs < z'.natAbs
      · rw [if_pos c1]; omega
      · rw [if_neg c1, if_pos (by omega)]; omega
    · left; exact hs
set_option maxHeartbeats 4000000 in
theorem zsame_any (s : Bool) (a : Option Addr) (n cap : Nat) (z : Int) (s' : Bool) (a' : Option Addr) (n' cap' : Nat) (z' : Int) (w : World) (h : Can w s a n cap z) (h' : Can w s' a' n' cap' z') (hk : sz z ≤ 1073741824) (hk' : sz z' ≤ 1073741824) :
    Calls Tryz.prog 23 #[.agg #[.bool s, .slice a n cap], .agg #[.bool s', .slice a' n' cap']] w fun e w' => e = .returned (.bool (decide (z = z'))) ∧ Below w.heap.size w w' := by
  have hb0 := ((Below.refl w.heap.size w).alloc (Nat.le_refl _) (.cells #[.bool s, .slice a n cap] 25)).alloc (by first | omega | (simp; done) | (simp; omega)) (.cells #[.bool s', .slice a' n' cap'] 25)
  have HC := Lib.hid (fun W (hb : Below w.heap.size w W) => zcmp_any _ _ _ _ W (h.2.2.below hb) (h'.2.2.below hb) (by unfold sz at hk; omega) (by unfold sz at hk'; omega))
  have HB0 := Lib.hid hb0
  have hcs := can_same h h'
  clear h h' hb0
  generalize cmpL (digs z.natAbs) (digs z'.natAbs) = cc at *
  have hways : (decide (z = z') = true ∧ (s == s') = true ∧ ((n : Int) == (n' : Int)) = true ∧ (cc == 0) = true) ∨ (decide (z = z') = false ∧ (s == s') = false) ∨ (decide (z = z') = false ∧ (s == s') = true ∧ ((n : Int) == (n' : Int)) = false) ∨ (decide (z = z') = false ∧ (s == s') = true ∧ ((n : Int) == (n' : Int)) = true ∧ (cc == 0) = false) := by
    simp only [decide_eq_true_eq, decide_eq_false_iff_not, beq_iff_eq, beq_eq_false_iff_ne]
    rcases hcs with ⟨h1, h2, h3, h4⟩ | ⟨h1, h2⟩
    · left; exact ⟨h1, h2, by omega, h4⟩
    · right
      by_cases c1 : s = s'
      · right
        by_cases c2 : n = n'
        · right
          refine ⟨h1, c1, by omega, ?_⟩
          rcases h2 with h2 | h2 | h2
          · exact absurd c1 h2
          · exact absurd c2 h2
          · exact h2
        · left; exact ⟨h1, c1, by omega⟩
      · left; exact ⟨h1, c1⟩
  clear hcs
  rcases hways with ⟨d1, d2, d3, d4⟩ | ⟨d1, d2⟩ | ⟨d1, d2, d3⟩ | ⟨d1, d2, d3, d4⟩
  · have HD := Lib.hid d1
    clear d1
    go_enter Tryz.func23, Tryz.ntmps23
    go_wp2_with (go_at_call 48; refine (HC.out _ HB0.out).mono ?_; rintro e w1 ⟨rfl, hb1⟩; have HB1 := Lib.hid (below_call HB0.out hb1 (by first | omega | (simp; done) | (simp; omega))); clear hb1)
    go_ret
    exact ⟨ret_bool' HD.out.symm, HB1.out⟩
  · have HD := Lib.hid d1
    clear d1
    go_enter Tryz.func23, Tryz.ntmps23
    go_wp2_with fail
    go_ret
    exact ⟨ret_bool' HD.out.symm, HB0.out⟩
  · have HD := Lib.hid d1
    clear d1
    go_enter Tryz.func23, Tryz.ntmps23
    go_wp2_with fail
    go_ret
    exact ⟨ret_bool' HD.out.symm, HB0.out⟩
  · have HD := Lib.hid d1
    clear d1
    go_enter Tryz.func23, Tryz.ntmps23
    go_wp2_with (go_at_call 48; refine (HC.out _ HB0.out).mono ?_; rintro e w1 ⟨rfl, hb1⟩; have HB1 := Lib.hid (below_call HB0.out hb1 (by first | omega | (simp; done) | (simp; omega))); clear hb1)
    go_ret
    exact ⟨ret_bool' HD.out.symm, HB1.out⟩
end Go.Proofs.YtpiflllcjgpkhaaGreatDoor

namespace Go.Proofs.YtpiflllcjgpkhaaGreatDoor
open Go.RowKit Limb
theorem run_mag (s : Bool) (a : Option Addr) (n cap : Nat) (w : World) : Sem.run Tryz.prog (Instr.field 25 (.agg #[.bool s, .slice a n cap]) 1) w = .ok (.slice a n cap) w := by kernel_rfl
attribute [local go_sem] run_mag
end Go.Proofs.YtpiflllcjgpkhaaGreatDoor

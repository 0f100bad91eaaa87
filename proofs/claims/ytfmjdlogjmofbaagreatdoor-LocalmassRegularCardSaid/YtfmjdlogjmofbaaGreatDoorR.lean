import Derived.Test.YtfmjdlogjmofbaaGreatDoorMem
import Derived.Test.YtfmjdlogjmofbaaGreatDoorProg
import Derived.Test.YtfmjdlogjmofbaaGreatDoorL
import Derived.Deep.QuietTactic
import Derived.BigQuiet
import Derived.Deep.RegionHeld3
import Derived.Laws.BitsAllLaws
import Derived.Test.YtfmjdlogjmofbaaGreatDoorW
set_option maxRecDepth 3000
namespace Go.Proofs.YtfmjdlogjmofbaaGreatDoor
section
open Go.RowKit Limb
theorem cZU {k : IntKind} {a b : Int} (h : a = b) : Ending.returned (.int k a) = .returned (.int k b) := by rw [h]
def aZn (l : List Nat) : List Value := l.map fun x => .int .u32 (x : Nat)
theorem bZA (l : List Nat) : (aZn l).length = l.length := by simp [aZn]
theorem cZY {l : List Nat} {i x : Nat} (h : l[i]? = some x) : (aZn l)[i]? = some (.int .u32 (x : Nat)) := by simp [aZn, h]
theorem eZM (a b : List Nat) : aZn (a ++ b) = aZn a ++ aZn b := by simp [aZn]
theorem gZM (l : List Nat) : ∀ u ∈ aZn l, u.oneCell' = true := by
 intro u hu
 obtain ⟨x, _, rfl⟩ := List.mem_map.1 hu
 rfl
def Mg (w : World) (v : Value) (l : List Nat) : Prop := Rd w v l.length (aZn l) ∧ Lm l
theorem Mg.below {w w' : World} {v : Value} {l : List Nat} (h : Mg w v l) (hb : Below w.heap.size w w') : Mg w' v l := ⟨h.1.below hb, h.2⟩
theorem Mg.form {w : World} {v : Value} {l : List Nat} (h : Mg w v l) : ∃ a cap, v = .slice a l.length cap ∧ l.length ≤ cap ∧ cap ≤ maxLen ∧ (a = none → cap = 0) ∧
  (0 < l.length → ∃ b off, a = some ⟨b, off, none⟩ ∧ b < w.heap.size ∧ ∀ j x, l[j]? = some x → w.cell? ⟨b, off + j, none⟩ = some (.int .u32 (x : Nat))) := by
 obtain ⟨⟨a, cap, rfl, h1, ⟨h2, h2'⟩, h3⟩, _⟩ := h
 refine ⟨a, cap, rfl, h1, h2, h2', fun hl => ?_⟩
 obtain ⟨b, off, rfl, hb, hc⟩ := h3 (fun e => by have := congrArg List.length e; rw [bZA] at this; simp at this; simp [this] at hl)
 exact ⟨b, off, rfl, hb, fun j x hj => hc j _ (cZY hj)⟩
theorem Mg.cell {w : World} {b off n cap : Nat} {l : List Nat} (h : Mg w (.slice (some ⟨b, off, none⟩) n cap) l) {j x : Nat} (hx : l[j]? = some x) : w.cell? ⟨b, off + j, none⟩ = some (.int .u32 (x : Nat)) := by
 obtain ⟨a, cap', hv, _, _, _, hr⟩ := h.form
 injection hv with e1 e2 e3
 subst e1
 obtain ⟨b', off', hv', _, hc⟩ := hr (by have := (List.getElem?_eq_some_iff.1 hx).1; omega)
 injection hv' with hv'
 injection hv' with e4 e5
 subst e4 e5
 exact hc j x hx
theorem Mg.of_owns {w : World} {base e : Nat} {v : Value} {l : List Nat} (h : w.ownsRow base e 1 v l.length (aZn l)) (hl : Lm l) : Mg w v l := ⟨Rd.of_owns h, hl⟩
theorem kZb : (Tryz.prog.info? 168).map (fun i => (i.zero, i.size, i.bytes)) = some (some (.int .u32 0), 1, 4) := by kernel_rfl
def NewMg (w : World) (l : List Nat) (e : Ending) (w' : World) : Prop :=
 ∃ v, e = .returned v ∧ w'.ownsRow w.heap.size 168 1 v l.length (aZn l) ∧ Below w.heap.size w w'
theorem app_nil (w : World) : (Builtin.append_ #[30, 30] 30 #[.slice none 0 0, .slice none 0 0]).run Tryz.prog w = .ok (.slice none 0 0) w := by kernel_rfl
set_option maxHeartbeats 1000000 in
theorem fZa (v : Value) (l : List Nat) (w : World) (h : Mg w v l) (hlen : l.length ≤ 1099511627776) :
  Calls Tryz.prog 60 #[v] w (NewMg w (digs (val l))) := by
 obtain ⟨i0, hi, hx⟩ := Option.map_eq_some_iff.1 kZb
 simp only [Prod.mk.injEq] at hx
 obtain ⟨hz0, hz1, hz2⟩ := hx
 have HL := Lib.hid h.2
 obtain ⟨a, cap, rfl, hcap, hcm, hnil, hrd⟩ := h.form
 unfold maxLen at hcm
 have HRD := Lib.hid hrd
 have HNIL := Lib.hid hnil
 clear h hrd hnil
 go_enter Tryz.func60, Tryz.ntmps60
 go_wp2_with fail
 go_loopg [3] l.length (fun g s3 wr => ∃ (k : Nat), k ≤ l.length ∧ k = g ∧ s3 = .int .i64 k ∧ w = wr ∧ ∀ i x, k ≤ i → l[i]? = some x → x = 0)
 case atStart => exact ⟨l.length, oM, rfl, rfl, rfl, fun i x hi hx => by rw [List.getElem?_eq_none hi] at hx; cases hx⟩
 case round =>
  obtain ⟨k, hk, rfl, rfl, rfl, hz⟩ := hrel
  have HZ := Lib.hid hz
  clear hz
  cases k with
  | zero =>
   have HT : Hid (digs (val l) = []) := by
    have := dZP HL.out (Nat.zero_le _) HZ.out (fun x h => absurd h (Nat.lt_irrefl 0))
    rw [← this]; rfl
   cases a with
   | none =>
    have h0 := HNIL.out rfl
    subst h0
    obtain rfl : l = [] := List.length_eq_zero_iff.1 oM
    have hap := fun w => app_nil w
    go_wp2_with fail
    go_ret
    exact ⟨_, rfl, World.ownsRow_nil _ _ _ _, Below.refl _ _⟩
   | some ad =>
    go_wp2_with (at_builtin; refine wpList_append_own _ rfl _ _ 30 rfl w.heap.size 168 i0 (.int .u32 0) 1 4 Tryz.underlying30 hi hz0 hz1 hz2 rfl aD (.slice none 0 0) 0 [] rfl (World.ownsRow_nil _ _ _ _) ad 0 cap [] rfl rfl ?c1 ?c2 ?c3 ?c4 ?c5 ?_)
    case c1 => simp
    case c2 => simp
    case c3 => unfold maxLen; omega
    case c4 => omega
    case c5 => omega
    intro v' w1 hown' hgrow _
    have HX : Hid (w1.ownsRow w.heap.size 168 1 v' 0 [] ∧ Below w.heap.size w w1) := ⟨hown', (Below.refl _ _).grown hgrow (Nat.le_refl _) (by simp [Value.ownBlock])⟩
    clear hown' hgrow
    go_wp2_with fail
    go_ret
    exact ⟨_, rfl, by rw [HT.out]; exact HX.out.1, HX.out.2⟩
  | succ k =>
   obtain ⟨x, hx⟩ : ∃ x, l[k]? = some x := ⟨_, List.getElem?_eq_getElem oM⟩
   obtain ⟨b, off, rfl, hb, hc⟩ := HRD.out oM
   have hck := hc k x hx
   have hxB := HL.out.get hx
   rw [aZv] at hxB
   by_cases hx0 : x = 0
   ·subst hx0
    have HZ2 : Hid (∀ i x, k ≤ i → l[i]? = some x → x = 0) := by
     intro i y hi hy
     by_cases e : i = k
     ·subst e; rw [hx] at hy; exact (Option.some.inj hy).symm
     ·exact HZ.out i y oM hy
    have HC := Lib.hid hc
    clear hc hx HZ
    go_wp2_with fail
    go_roundg k
    case measure => omega
    case rel => exact ⟨k, oM, rfl, by go_num, rfl, HZ2.out⟩
   ·have hxb : ((x : Int) == 0) = false := by rw [beq_eq_false_iff_ne]; omega
    have HT : Hid (l.take (k + 1) = digs (val l)) := dZP HL.out hk HZ.out (fun y _ hy => by rw [Nat.add_sub_cancel, hx] at hy; have := Option.some.inj hy; omega)
    have HC := Lib.hid hc
    clear hc hx HZ hx0
    go_wp2_with (at_builtin; refine wpList_append_own _ rfl _ _ 30 rfl w.heap.size 168 i0 (.int .u32 0) 1 4 Tryz.underlying30 hi hz0 hz1 hz2 rfl aD (.slice none 0 0) 0 [] rfl (World.ownsRow_nil _ _ _ _) ⟨b, off, none⟩ (k + 1) cap (aZn (l.take (k + 1))) rfl ?c6 ?d1 ?d2 ?d3 ?d4 ?d5 ?_)
    case c6 => rw [bZA, List.length_take]; omega
    case d1 =>
     intro j u hu
     rw [eZZ]
     have hj : j < k + 1 := by
      have := (List.getElem?_eq_some_iff.1 hu).1
      rw [bZA, List.length_take] at this
      omega
     obtain ⟨y, hy⟩ : ∃ y, l[j]? = some y := ⟨_, List.getElem?_eq_getElem oM⟩
     rw [cZY (by rw [List.getElem?_take_of_lt hj]; exact hy)] at hu
     rw [← hu]
     exact HC.out j y hy
    case d2 => exact gZM _
    case d3 => unfold maxLen; omega
    case d4 => omega
    case d5 => omega
    intro v' w1 hown' hgrow _
    have HX : Hid (w1.ownsRow w.heap.size 168 1 v' (l.take (k + 1)).length (aZn (l.take (k + 1))) ∧ Below w.heap.size w w1) := ⟨by rw [List.length_take, Nat.min_eq_left hk]; exact hown', (Below.refl _ _).grown hgrow (Nat.le_refl _) (by simp [Value.ownBlock])⟩
    clear hown' hgrow
    go_wp2_with fail
    go_ret
    exact ⟨_, rfl, by rw [← HT.out]; exact HX.out.1, HX.out.2⟩
def Fr (base : Nat) (a : Option Addr) : Prop := ∀ ad, a = some ad → base ≤ ad.block
theorem Fr.mono {b b' : Nat} {a : Option Addr} (h : Fr b a) (hb : b' ≤ b) : Fr b' a := fun ad e => Nat.le_trans hb (h ad e)
theorem Fr.of_owns {w : World} {base e n cap : Nat} {a : Option Addr} {xs : List Value} (h : w.ownsRow base e 1 (.slice a n cap) n xs) : Fr base a := by
 intro ad e
 subst e
 exact (h.lt ad.block rfl).1
theorem Mg.store {w : World} {a : Option Addr} {n cap base : Nat} {l : List Nat} (h : Mg w (.slice a n cap) l) (hf : Fr base a) {p : Addr} (hp : p.block < base) (u : Value) : Mg (w.setCell p u) (.slice a n cap) l := by
 obtain ⟨⟨a', cap', h0, h1, h2, h3⟩, hl⟩ := h
 injection h0 with e1 e2 e3
 subst e1 e3
 refine ⟨⟨a, cap, by rw [e2], h1, h2, fun hx => ?_⟩, hl⟩
 obtain ⟨b, off, rfl, hb, hc⟩ := h3 hx
 have hne : b ≠ p.block := by have := hf _ rfl; simp only at this; omega
 refine ⟨b, off, rfl, by simpa [World.setCell] using hb, fun j u' hj => ?_⟩
 rw [World.cell?_of_block (w := w) (a := ⟨b, off + j, none⟩) (Below.heap_setCell _ _ _ _ hne)]
 exact hc j u' hj
theorem hZd {W w1 : World} (hb : Below W.heap.size W w1) : (∀ b o, b < W.heap.size → w1.cell? ⟨b, o, none⟩ = W.cell? ⟨b, o, none⟩) ∧ (∀ b o, b < W.heap.size → w1.frozen? ⟨b, o, none⟩ = W.frozen? ⟨b, o, none⟩) :=
 ⟨fun b o h => hb.cell (p := ⟨b, o, none⟩) h, fun b o h => hb.frozen (p := ⟨b, o, none⟩) h⟩
theorem bZ1 {B : Nat} {w W w1 : World} (h : Below B w W) (hb : Below W.heap.size W w1) (hB : B ≤ W.heap.size) : Below B w w1 := h.trans (hb.mono hB)
def IsZ (w : World) (s : Bool) (a : Option Addr) (n cap : Nat) (z : Int) (k : Nat) : Prop :=
 ∃ l, l.length = n ∧ Mg w (.slice a n cap) l ∧ n ≤ k ∧ z = if s then -(val l : Int) else (val l : Int)
def Can (w : World) (s : Bool) (a : Option Addr) (n cap : Nat) (z : Int) : Prop := s = decide (z < 0) ∧ n = (digs z.natAbs).length ∧ Mg w (.slice a n cap) (digs z.natAbs)
def sz (z : Int) : Nat := (digs z.natAbs).length
theorem IsZ.below {w w' : World} {s : Bool} {a : Option Addr} {n cap : Nat} {z : Int} {k : Nat} (h : IsZ w s a n cap z k) (hb : Below w.heap.size w w') : IsZ w' s a n cap z k := by
 obtain ⟨l, h1, h2, h3, h4⟩ := h
 exact ⟨l, h1, h2.below hb, h3, h4⟩
theorem IsZ.mono {w : World} {s : Bool} {a : Option Addr} {n cap : Nat} {z : Int} {k m : Nat} (h : IsZ w s a n cap z k) (hm : k ≤ m) : IsZ w s a n cap z m := by
 obtain ⟨l, h1, h2, h3, h4⟩ := h
 exact ⟨l, h1, h2, Nat.le_trans h3 hm, h4⟩
theorem Can.below {w w' : World} {s : Bool} {a : Option Addr} {n cap : Nat} {z : Int} (h : Can w s a n cap z) (hb : Below w.heap.size w w') : Can w' s a n cap z := ⟨h.1, h.2.1, h.2.2.below hb⟩
theorem Can.store {w : World} {s : Bool} {a : Option Addr} {n cap base : Nat} {z : Int} (h : Can w s a n cap z) (hf : Fr base a) {p : Addr} (hp : p.block < base) (u : Value) : Can (w.setCell p u) s a n cap z := ⟨h.1, h.2.1, h.2.2.store hf hp u⟩
def hZf (z : Int) (w : World) (e : Ending) (w' : World) : Prop := ∃ s a n cap, e = .returned (.agg #[.bool s, .slice a n cap]) ∧ Can w' s a n cap z ∧ Fr w.heap.size a ∧ Below w.heap.size w w'
theorem fZR {neg : Bool} {n : Nat} {z : Int} (h : z = if neg then -(n : Int) else (n : Int)) : z.natAbs = n ∧ decide (z < 0) = (neg && decide (0 < n)) := by
 cases neg
 ·simp only [Bool.false_eq_true, if_false] at h
  refine ⟨oM, ?_⟩
  rw [decide_eq_false oM]; rfl
 ·simp only [if_true] at h
  refine ⟨oM, ?_⟩
  rcases Nat.eq_zero_or_pos n with h0 | h0
  ·rw [decide_eq_false oM, decide_eq_false oM]; rfl
  ·rw [decide_eq_true oM, decide_eq_true h0]; rfl
theorem gZY (n : Nat) : decide (0 < (digs n).length) = decide (0 < n) := by
 rcases Nat.eq_zero_or_pos n with h | h
 ·subst h; rfl
 ·rw [decide_eq_true h, decide_eq_true]
  rw [aZR oM]; simp
theorem zfin {w w1 : World} {s : Bool} {a : Option Addr} {n cap base R : Nat} {z : Int} (h1 : Below w.heap.size w w1) (hR : w.heap.size ≤ R) (hlt : R < base) (hc : Can w1 s a n cap z) (hf : Fr base a) (x y : Value) :
  hZf z w (.returned (.agg #[.bool s, .slice a n cap])) ((w1.setCell ⟨R, 0, none⟩ x).setCell ⟨R, 1, none⟩ y) :=
 ⟨s, a, n, cap, rfl, (hc.store hf (p := ⟨R, 0, none⟩) hlt x).store hf (p := ⟨R, 1, none⟩) hlt y, hf.mono oM, (h1.setCell (p := ⟨R, 0, none⟩) hR x).setCell (p := ⟨R, 1, none⟩) hR y⟩
theorem fZ1 {w : World} {R : Nat} {a b : Value} {t : TypeId} {fr : Nat × Nat} (h : w.heap[R]? = some (.cells #[a, b] t fr)) (x y : Value) :
  ((w.setCell ⟨R, 0, none⟩ x).setCell ⟨R, 1, none⟩ y).heap[R]? = some (.cells #[x, y] t fr) := by
 simp [World.setCell, Array.getElem?_modify, h]
theorem zres {fn : Func} {p : Tmp} {w : World} {R : Nat} {x y : Value} {t : TypeId} {fr : Nat × Nat} {tmps : Array Value} (h : fn.results = #[.cell p 32]) (hp : tmps.getD p undef = .pointer (some ⟨R, 0, none⟩)) (hg : w.heap[R]? = some (.cells #[x, y] t fr)) :
  (results fn tmps).run Tryz.prog w = .ok (.agg #[x, y]) w :=
 results_cell_row h tmps w R t #[x, y] fr _ hp hg Tryz.underlying32 rfl (by kernel_rfl)
set_option maxHeartbeats 1000000 in
theorem dZN (neg : Bool) (v : Value) (l : List Nat) (w : World) (z : Int) (h : Mg w v l) (hlen : l.length ≤ 1099511627776) (hz : z = if neg then -(val l : Int) else (val l : Int)) :
  Calls Tryz.prog 123 #[.bool neg, v] w (hZf z w) := by
 obtain ⟨ha, hd⟩ := fZR hz
 rw [← gZY] at hd
 obtain ⟨L, hL⟩ : ∃ L, digs (val l) = L := ⟨_, rfl⟩
 have hb0 := (Below.refl w.heap.size w).alloc (Nat.le_refl _) (.cells #[.bool false, .slice none 0 0] 32)
 have C := Lib.hid (fZa v l (w.alloc (.cells #[.bool false, .slice none 0 0] 32)) (h.below hb0) hlen)
 have HLm := Lib.hid (aZg (val l))
 have HF : Hid (decide (z < 0) = (neg && decide (0 < L.length)) ∧ digs z.natAbs = L) := by rw [ha, hL, ← hL]; exact ⟨hd, rfl⟩
 rw [hL] at C HLm
 have HB0 := Lib.hid hb0
 clear hz ha hd hL h hb0
 cases neg
 all_goals
  go_enter Tryz.func123, Tryz.ntmps123
  go_wp2_with fail
  refine C.out.mono ?_
  rintro e w1 ⟨v1, rfl, hown, hb⟩
  obtain ⟨a1, cap1, hv1, _⟩ := (Mg.of_owns hown HLm.out).form
  subst hv1
  have HM := Lib.hid (Mg.of_owns hown HLm.out)
  have HFr := Lib.hid (Fr.of_owns hown)
  obtain ⟨hc1, hf1⟩ := hZd hb
  have hs1 := hb.size
  simp at hs1
  have HB := Lib.hid (bZ1 HB0.out hb (by simp))
  have HR : Hid (w1.heap[w.heap.size]? = some (.cells #[.bool false, .slice none 0 0] 32 (0, 0))) := by show _ = _; rw [hb.block _ (by simp)]; exact heap_alloc_new w _
  clear hown hb
  go_wp2_with fail
  refine bodyPost_ret (v := .agg #[.bool (decide (z < 0)), .slice a1 L.length cap1]) (by rw [HF.out.1]; exact zres rfl rfl (fZ1 HR.out _ _)) rfl ?_
  refine zfin HB.out (Nat.le_refl _) (base := w.heap.size + 1) (Nat.lt_succ_self _) ⟨rfl, by rw [HF.out.2], by rw [HF.out.2]; exact HM.out⟩ ?_ _ _
  have := HFr.out
  simpa using this
theorem mg_new {W : World} {R c : Nat} {T : TypeId} (l : List Nat) (hR : R = W.heap.size) (hl : Lm l) (hc : l.length ≤ c) (hm : c ≤ maxLen) : Mg (W.alloc (.cells (aZn l).toArray T)) (.slice (some ⟨R, 0, none⟩) l.length c) l := by
 refine ⟨⟨_, c, rfl, hc, ⟨hm, fun h => by cases h⟩, fun _ => ⟨R, 0, rfl, by simp [hR], fun j u hj => ?_⟩⟩, hl⟩
 have := iZk W R hR (aZn l) T j u hj
 rwa [eZZ] at this
theorem val_two (u : Nat) : val [u % B, u / B] = u := by
 simp only [val, Nat.mul_zero, Nat.add_zero]; exact Nat.mod_add_div u B
theorem lm_two {u : Nat} (hu : u < 18446744073709551616) : Lm [u % B, u / B] := by
 have h1 : u % B < B := Nat.mod_lt _ aZY
 have h2 : u / B < B := by rw [aZv]; omega
 exact Lm.cons h1 (Lm.cons h2 Lm.nil)
set_option maxHeartbeats 1000000 in
theorem dZL (neg : Bool) (u : Nat) (w : World) (z : Int) (hu : u < 18446744073709551616) (hz : z = if neg then -(u : Int) else (u : Int)) :
  Calls Tryz.prog 103 #[.bool neg, .int .u64 u] w (hZf z w) := by
 have hm := mg_new (W := w.alloc (.cells #[.bool false, .slice none 0 0] 32)) (R := w.heap.size + 1) (c := 2) (T := 168) [u % B, u / B] (by simp) (lm_two hu) (by simp) (by unfold maxLen; omega)
 have C := Lib.hid (dZN neg _ _ _ z hm (by simp) (by rw [val_two]; exact hz))
 have e : (aZn [u % B, u / B]).toArray = #[.int .u32 ((u : Int) % 4294967296), .int .u32 ((u : Int) / 4294967296)] := by simp [aZn, aZv]
 rw [e] at C
 have HB0 := Lib.hid (((Below.refl w.heap.size w).alloc (Nat.le_refl _) (.cells #[.bool false, .slice none 0 0] 32)).alloc (by simp) (.cells #[.int .u32 ((u : Int) % 4294967296), .int .u32 ((u : Int) / 4294967296)] 168))
 clear hm hz e
 go_enter Tryz.func103, Tryz.ntmps103
 go_wp2_with fail
 refine C.out.mono ?_
 rintro e w1 ⟨s1, a1, n1, cap1, rfl, hz1, hfr1, hb⟩
 obtain ⟨hc1, hf1⟩ := hZd hb
 have hs1 := hb.size
 simp at hs1
 have HZ := Lib.hid hz1
 have HFr := Lib.hid hfr1
 have HB := Lib.hid (bZ1 HB0.out hb (by simp; omega))
 have HR : Hid (w1.heap[w.heap.size]? = some (.cells #[.bool false, .slice none 0 0] 32 (0, 0))) := by show _ = _; rw [hb.block _ (by simp; omega), Below.heap_alloc _ _ _ (by simp)]; exact heap_alloc_new w _
 clear hb hz1 hfr1
 go_wp2_with fail
 refine bodyPost_ret (v := .agg #[.bool s1, .slice a1 n1 cap1]) (zres rfl rfl (fZ1 HR.out _ _)) rfl ?_
 exact zfin HB.out (Nat.le_refl _) (base := w.heap.size + 1) (Nat.lt_succ_self _) HZ.out (HFr.out.mono (by simp)) _ _
theorem u64_neg {n : Int} (h1 : -9223372036854775808 ≤ n) (h2 : n < 0) : IntKind.u64.wrap (-(IntKind.u64.wrap n)) = -n := by
 rw [IntKind.wrap_u64, IntKind.wrap_u64]; omega
theorem bZX (w : World) (p : Addr) (u : Value) : (w.setCell p u).heap.size = w.heap.size := by simp [World.setCell]
theorem iZW {w : World} {R : Nat} {a b : Value} (c0 : w.cell? ⟨R, 0, none⟩ = some a) (c1 : w.cell? ⟨R, 1, none⟩ = some b) (x y : Value) :
  ((w.setCell ⟨R, 0, none⟩ x).setCell ⟨R, 1, none⟩ y).cell? ⟨R, 0, none⟩ = some x ∧ ((w.setCell ⟨R, 0, none⟩ x).setCell ⟨R, 1, none⟩ y).cell? ⟨R, 1, none⟩ = some y := by
 unfold World.cell? at *
 simp only [World.setCell, Array.getElem?_modify]
 cases hh : w.heap[R]? with
 | none => simp [hh] at c0
 | some o =>
  cases o with
  | cells cs t fr =>
   simp only [hh] at c0 c1
   simp at c0 c1
   have h0 := (Array.getElem?_eq_some_iff.1 c0).1
   have h1 := (Array.getElem?_eq_some_iff.1 c1).1
   simp [h0, h1]
  | _ => simp [hh] at c0
theorem nZK {fn : Func} {p : Tmp} {w : World} {R : Nat} {x y a b : Value} {tmps : Array Value} (h : fn.results = #[.cell p 32]) (hp : tmps.getD p undef = .pointer (some ⟨R, 0, none⟩)) (c0 : w.cell? ⟨R, 0, none⟩ = some a) (c1 : w.cell? ⟨R, 1, none⟩ = some b) :
  (results fn tmps).run Tryz.prog ((w.setCell ⟨R, 0, none⟩ x).setCell ⟨R, 1, none⟩ y) = .ok (.agg #[x, y]) ((w.setCell ⟨R, 0, none⟩ x).setCell ⟨R, 1, none⟩ y) := by
 obtain ⟨d0, d1⟩ := iZW c0 c1 x y
 have hp' : tmps[p]?.getD undef = .pointer (some ⟨R, 0, none⟩) := by simpa using hp
 simp [results, h, hp', asAddr, go_sem, d0, d1]
set_option maxHeartbeats 1000000 in
theorem kZ3 (n : Int) (w : World) (h1 : -9223372036854775808 ≤ n) (h2 : n ≤ 9223372036854775807) :
  Calls Tryz.prog 45 #[.int .i64 n] w (hZf n w) := by
 have HB0 := Lib.hid ((Below.refl w.heap.size w).alloc (Nat.le_refl _) (.cells #[.bool false, .slice none 0 0] 32))
 obtain ⟨u, hu⟩ : ∃ u : Nat, n.natAbs = u := ⟨_, rfl⟩
 by_cases hn : n < 0
 ·have C := Lib.hid (dZL true u (w.alloc (.cells #[.bool false, .slice none 0 0] 32)) n oM (by simp; omega))
  rw [show (u : Int) = -n by omega] at C
  have hu64 := u64_neg h1 hn
  clear hu
  go_enter Tryz.func45, Tryz.ntmps45
  go_wp2_with fail
  refine (C.out).mono ?_
  rintro e w1 ⟨s1, a1, n1, cap1, rfl, hz1, hfr1, hb1⟩
  obtain ⟨hc1, hf1⟩ := hZd hb1
  have hs1 := hb1.size
  repeat first | rw [World.size_alloc] at hs1 | rw [bZX] at hs1
  have HZ1 := Lib.hid hz1
  have HFr1 := Lib.hid hfr1
  have HB1 := Lib.hid (bZ1 HB0.out hb1 (by first | omega | (simp; done) | (simp; omega)))
  have HbN1 := Lib.hid hb1
  clear hz1 hfr1 hb1
  go_wp2_with fail
  refine bodyPost_ret (v := .agg #[.bool s1, .slice a1 n1 cap1]) (nZK rfl rfl (w := w1) (a := .bool false) (b := .slice none 0 0) (R := w.heap.size) (by simp (disch := first | omega | (simp; done) | (simp; omega)) [hc1]) (by simp (disch := first | omega | (simp; done) | (simp; omega)) [hc1])) rfl ?_
  exact zfin HB1.out (by first | omega | (simp; done) | (simp; omega)) (R := w.heap.size) (base := w.heap.size + 1) (Nat.lt_succ_self _) HZ1.out (HFr1.out.mono (by first | omega | (simp; done) | (simp; omega))) _ _
 ·have C := Lib.hid (dZL false u (w.alloc (.cells #[.bool false, .slice none 0 0] 32)) n oM (by simp; omega))
  rw [show (u : Int) = n by omega] at C
  clear hu
  go_enter Tryz.func45, Tryz.ntmps45
  go_wp2_with fail
  refine (C.out).mono ?_
  rintro e w1 ⟨s1, a1, n1, cap1, rfl, hz1, hfr1, hb1⟩
  obtain ⟨hc1, hf1⟩ := hZd hb1
  have hs1 := hb1.size
  repeat first | rw [World.size_alloc] at hs1 | rw [bZX] at hs1
  have HZ1 := Lib.hid hz1
  have HFr1 := Lib.hid hfr1
  have HB1 := Lib.hid (bZ1 HB0.out hb1 (by first | omega | (simp; done) | (simp; omega)))
  have HbN1 := Lib.hid hb1
  clear hz1 hfr1 hb1
  go_wp2_with fail
  refine bodyPost_ret (v := .agg #[.bool s1, .slice a1 n1 cap1]) (nZK rfl rfl (w := w1) (a := .bool false) (b := .slice none 0 0) (R := w.heap.size) (by simp (disch := first | omega | (simp; done) | (simp; omega)) [hc1]) (by simp (disch := first | omega | (simp; done) | (simp; omega)) [hc1])) rfl ?_
  exact zfin HB1.out (by first | omega | (simp; done) | (simp; omega)) (R := w.heap.size) (base := w.heap.size + 1) (Nat.lt_succ_self _) HZ1.out (HFr1.out.mono (by first | omega | (simp; done) | (simp; omega))) _ _
set_option maxHeartbeats 1000000 in
theorem nZQ (s : Bool) (a : Option Addr) (n cap : Nat) (z : Int) (k : Nat) (w : World) (h : IsZ w s a n cap z k) (hk : k ≤ 1099511627776) :
  Calls Tryz.prog 151 #[.agg #[.bool s, .slice a n cap]] w (hZf (z.natAbs : Int) w) := by
 have hb0 := ((Below.refl w.heap.size w).alloc (Nat.le_refl _) (.cells #[.bool s, .slice a n cap] 32)).alloc (by first | omega | (simp; done) | (simp; omega)) (.cells #[.bool false, .slice none 0 0] 32)
 obtain ⟨l, hl, hm, hn, hz⟩ := h
 have C := Lib.hid (dZN false _ _ _ (z.natAbs : Int) (hm.below hb0) oM (by rw [(fZR hz).1]; simp))
 have HB0 := Lib.hid hb0
 clear hm hl hz hb0
 go_enter Tryz.func151, Tryz.ntmps151
 go_wp2_with fail
 refine (C.out).mono ?_
 rintro e w1 ⟨s1, a1, n1, cap1, rfl, hz1, hfr1, hb1⟩
 obtain ⟨hc1, hf1⟩ := hZd hb1
 have hs1 := hb1.size
 repeat first | rw [World.size_alloc] at hs1 | rw [bZX] at hs1
 have HZ1 := Lib.hid hz1
 have HFr1 := Lib.hid hfr1
 have HB1 := Lib.hid (bZ1 HB0.out hb1 (by first | omega | (simp; done) | (simp; omega)))
 have HbN1 := Lib.hid hb1
 clear hz1 hfr1 hb1
 go_wp2_with fail
 refine bodyPost_ret (v := .agg #[.bool s1, .slice a1 n1 cap1]) (nZK rfl rfl (w := w1) (a := .bool false) (b := .slice none 0 0) (R := (w.heap.size + 1)) (by simp (disch := first | omega | (simp; done) | (simp; omega)) [hc1]) (by simp (disch := first | omega | (simp; done) | (simp; omega)) [hc1])) rfl ?_
 exact zfin HB1.out (by first | omega | (simp; done) | (simp; omega)) (R := (w.heap.size + 1)) (base := (w.heap.size + 1) + 1) (Nat.lt_succ_self _) HZ1.out (HFr1.out.mono (by first | omega | (simp; done) | (simp; omega))) _ _
set_option maxHeartbeats 1000000 in
theorem nZL (s : Bool) (a : Option Addr) (n cap : Nat) (z : Int) (k : Nat) (w : World) (h : IsZ w s a n cap z k) (hk : k ≤ 1099511627776) :
  Calls Tryz.prog 66 #[.agg #[.bool s, .slice a n cap]] w (hZf (-z) w) := by
 have hb0 := ((Below.refl w.heap.size w).alloc (Nat.le_refl _) (.cells #[.bool s, .slice a n cap] 32)).alloc (by first | omega | (simp; done) | (simp; omega)) (.cells #[.bool false, .slice none 0 0] 32)
 obtain ⟨l, hl, hm, hn, hz⟩ := h
 have C := Lib.hid (dZN (!s) _ _ _ (-z) (hm.below hb0) oM (by rw [hz]; cases s <;> simp))
 have HB0 := Lib.hid hb0
 clear hm hl hz hb0
 go_enter Tryz.func66, Tryz.ntmps66
 go_wp2_with fail
 refine (C.out).mono ?_
 rintro e w1 ⟨s1, a1, n1, cap1, rfl, hz1, hfr1, hb1⟩
 obtain ⟨hc1, hf1⟩ := hZd hb1
 have hs1 := hb1.size
 repeat first | rw [World.size_alloc] at hs1 | rw [bZX] at hs1
 have HZ1 := Lib.hid hz1
 have HFr1 := Lib.hid hfr1
 have HB1 := Lib.hid (bZ1 HB0.out hb1 (by first | omega | (simp; done) | (simp; omega)))
 have HbN1 := Lib.hid hb1
 clear hz1 hfr1 hb1
 go_wp2_with fail
 refine bodyPost_ret (v := .agg #[.bool s1, .slice a1 n1 cap1]) (nZK rfl rfl (w := w1) (a := .bool false) (b := .slice none 0 0) (R := (w.heap.size + 1)) (by simp (disch := first | omega | (simp; done) | (simp; omega)) [hc1]) (by simp (disch := first | omega | (simp; done) | (simp; omega)) [hc1])) rfl ?_
 exact zfin HB1.out (by first | omega | (simp; done) | (simp; omega)) (R := (w.heap.size + 1)) (base := (w.heap.size + 1) + 1) (Nat.lt_succ_self _) HZ1.out (HFr1.out.mono (by first | omega | (simp; done) | (simp; omega))) _ _
end
section
open Go.RowKit Limb
set_option maxHeartbeats 1000000 in
theorem lZf (s : Bool) (a : Option Addr) (n cap : Nat) (z : Int) (k : Nat) (w : World) (h : IsZ w s a n cap z k) (hk : k ≤ 1099511627776) :
  Calls Tryz.prog 62 #[.agg #[.bool s, .slice a n cap]] w fun e w' => e = .returned (.int .i64 (sg3 z)) ∧ Below w.heap.size w w' := by
 have hb0 := (Below.refl w.heap.size w).alloc (Nat.le_refl _) (.cells #[.bool s, .slice a n cap] 32)
 obtain ⟨l, hl, hm, hn, hz⟩ := h
 have C := Lib.hid (fZa _ _ _ (hm.below hb0) oM)
 have HB0 := Lib.hid hb0
 rcases kZ5 hz with ⟨h0, h1⟩ | ⟨h0, rfl, h1⟩ | ⟨h0, rfl, h1⟩
 all_goals
  have H1 := Lib.hid h1
  have hL : ((digs (val l)).length == 0) = (val l == 0) := by
   have := gZY (val l)
   rw [Bool.eq_iff_iff, beq_iff_eq, beq_iff_eq]
   have h := decide_eq_decide.1 this
   omega
  have hL2 : (((digs (val l)).length : Int) == 0) = (val l == 0) := by rw [← hL, Bool.eq_iff_iff, beq_iff_eq, beq_iff_eq]; omega
  have hv : (val l == 0) = true ∨ (val l == 0) = false := by cases (val l == 0) <;> simp
  first
   | (have hv0 : (val l == 0) = true := (by rw [beq_iff_eq]; exact h0); rw [hv0] at hL2)
   | (have hv0 : (val l == 0) = false := (by rw [beq_eq_false_iff_ne]; omega); rw [hv0] at hL2)
  clear h0 h1 hz hm hl hb0 hL hv hv0
  go_enter Tryz.func62, Tryz.ntmps62
  go_wp2_with fail
  refine (C.out).mono ?_
  rintro e w1 ⟨v1, rfl, hown1, hb1⟩
  obtain ⟨a1, cap1, hv1, hcap1, hcm1, hnil1, _⟩ := (Mg.of_owns hown1 (aZg _)).form
  subst hv1
  have HM1 := Lib.hid (Mg.of_owns hown1 (aZg _))
  have HFr1 := Lib.hid (Fr.of_owns hown1)
  obtain ⟨hc1, hf1⟩ := hZd hb1
  have hs1 := hb1.size
  repeat first | rw [World.size_alloc] at hs1 | rw [bZX] at hs1
  have HB1 := Lib.hid (bZ1 HB0.out hb1 (by first | omega | (simp; done) | (simp; omega)))
  have HbN1 := Lib.hid hb1
  clear hown1 hb1 hnil1
  go_wp2_with fail
  go_ret
  exact ⟨cZU H1.out.symm, HB1.out⟩
set_option maxHeartbeats 2000000 in
theorem nZP (v1 v2 : Value) (l1 l2 : List Nat) (w : World) (h1 : Mg w v1 l1) (h2 : Mg w v2 l2) (hl1 : l1.length ≤ 1099511627776) (_hl2 : l2.length ≤ 1099511627776) :
  Calls Tryz.prog 153 #[v1, v2] w fun e w' => e = .returned (.int .i64 (cmpL l1 l2)) ∧ Below w.heap.size w w' := by
 have H1 := Lib.hid h1
 have H2 := Lib.hid h2
 obtain ⟨a1, cap1, rfl, _, _, _, _⟩ := h1.form
 obtain ⟨a2, cap2, rfl, _, _, _, _⟩ := h2.form
 clear h1 h2
 rcases Nat.lt_trichotomy l1.length l2.length with hlt | heq | hgt
 ·have HC : Hid (cmpL l1 l2 = -1) := by show cmpL l1 l2 = -1; unfold cmpL; rw [if_pos hlt]
  have hb : ((l1.length : Int) != (l2.length : Int)) = true := by rw [bne_iff_ne]; omega
  go_enter Tryz.func153, Tryz.ntmps153
  go_wp2_with fail
  go_ret
  exact ⟨cZU HC.out.symm, Below.refl _ _⟩
 ·have hb : ((l1.length : Int) != (l2.length : Int)) = false := by simp [heq]
  have HQ := Lib.hid heq
  clear heq
  go_enter Tryz.func153, Tryz.ntmps153
  go_wp2_with fail
  go_loopg [4, 5] l1.length (fun g s4 s5 wr => s5 = .int .i64 ((g : Int) - 1) ∧ g ≤ l1.length ∧ l1.drop g = l2.drop g ∧ Below w.heap.size w wr)
  case atStart => exact ⟨rfl, Nat.le_refl _, by rw [List.drop_eq_nil_of_le (Nat.le_refl _), List.drop_eq_nil_of_le (by rw [HQ.out]; exact Nat.le_refl _)], Below.refl _ _⟩
  case round =>
   obtain ⟨rfl, hg, hdr, hbx⟩ := hrel
   have HD := Lib.hid hdr
   have HBX := Lib.hid hbx
   clear hdr
   cases gk with
   | zero =>
    have HC : Hid (cmpL l1 l2 = 0) := by
     have : l1 = l2 := by simpa using HD.out
     show cmpL l1 l2 = 0
     rw [this, iZi]
    clear hbx
    go_wp2_with fail
    go_ret
    exact ⟨cZU HC.out.symm, HBX.out⟩
   | succ g =>
    obtain ⟨x, hx⟩ : ∃ x, l1[g]? = some x := ⟨_, List.getElem?_eq_getElem oM⟩
    obtain ⟨y, hy⟩ : ∃ y, l2[g]? = some y := ⟨_, List.getElem?_eq_getElem (by have := HQ.out; omega)⟩
    have hq := HQ.out
    obtain ⟨a1', cap1', hv1, _, _, _, hr1⟩ := (H1.out.below hbx).form
    obtain ⟨a2', cap2', hv2, _, _, _, hr2⟩ := (H2.out.below hbx).form
    injection hv1 with e1 e2 e3
    injection hv2 with e4 e5 e6
    subst e1 e3 e4 e6
    obtain ⟨b1, off1, rfl, hb1, hcl1⟩ := hr1 oM
    obtain ⟨b2, off2, rfl, hb2, hcl2⟩ := hr2 oM
    have c1 := hcl1 g x hx
    have c2 := hcl2 g y hy
    have hxB := H1.out.2.get hx
    have hyB := H2.out.2.get hy
    rw [aZv] at hxB hyB
    have hg2 : g < l2.length := oM
    have hgi1 : (g : Int) < (l1.length : Int) := oM
    have hgi2 : (g : Int) < (l2.length : Int) := oM
    have HL1 := Lib.hid H1.out.2
    have HL2 := Lib.hid H2.out.2
    have HX := Lib.hid hx
    have HY := Lib.hid hy
    clear hcl1 hcl2 e2 e5 hbx hx hy hq
    rcases Nat.lt_trichotomy x y with hxy | hxy | hxy
    ·have HC : Hid (cmpL l1 l2 = -1) := by
      have := cZf HQ.out HL1.out HX.out HY.out hxy HD.out
      show cmpL l1 l2 = -1
      unfold cmpL
      rw [if_neg (by rw [HQ.out]; omega), if_neg (by rw [HQ.out]; omega), if_pos this]
     have hne : ((x : Int) != (y : Int)) = true := by rw [bne_iff_ne]; omega
     have hlti : decide (x < y) = true := decide_eq_true hxy
     go_wp2_with fail
     go_quiet (fail)
     go_wp2_with fail
     go_quiet (fail)
     go_wp2_with fail
     go_ret
     exact ⟨cZU HC.out.symm, by first | exact below_drewN HBX.out _ | exact below_drewN (below_drewN HBX.out _) _⟩
    ·subst hxy
     have HD2 : Hid (l1.drop g = l2.drop g) := by
      have e1 := List.drop_eq_getElem_cons (l := l1) (i := g) oM
      have e2 := List.drop_eq_getElem_cons (l := l2) (i := g) oM
      show l1.drop g = l2.drop g
      rw [e1, e2, HD.out]
      congr 1
      rw [(List.getElem?_eq_some_iff.1 HX.out).2, (List.getElem?_eq_some_iff.1 HY.out).2]
     have hne : ((x : Int) != (x : Int)) = false := by simp
     go_wp2_with fail
     go_quiet (fail)
     go_wp2_with fail
     go_roundg g
     case measure => omega
     case rel => exact ⟨by go_num, oM, HD2.out, below_drewN HBX.out _⟩
    ·have HC : Hid (cmpL l1 l2 = 1) := by
      have := cZf HQ.out.symm HL2.out HY.out HX.out hxy HD.out.symm
      show cmpL l1 l2 = 1
      unfold cmpL
      rw [if_neg (by rw [HQ.out]; omega), if_neg (by rw [HQ.out]; omega), if_neg oM, if_pos this]
     have hne : ((x : Int) != (y : Int)) = true := by rw [bne_iff_ne]; omega
     have hlti : decide (x < y) = false := decide_eq_false oM
     go_wp2_with fail
     go_quiet (fail)
     go_wp2_with fail
     go_quiet (fail)
     go_wp2_with fail
     go_ret
     exact ⟨cZU HC.out.symm, by first | exact below_drewN HBX.out _ | exact below_drewN (below_drewN HBX.out _) _⟩
 ·have HC : Hid (cmpL l1 l2 = 1) := by show cmpL l1 l2 = 1; unfold cmpL; rw [if_neg oM, if_pos hgt]
  have hb : ((l1.length : Int) != (l2.length : Int)) = true := by rw [bne_iff_ne]; omega
  go_enter Tryz.func153, Tryz.ntmps153
  go_wp2_with fail
  go_ret
  exact ⟨cZU HC.out.symm, Below.refl _ _⟩
end
section
open Go.RowKit Limb
def hZh (N K : Nat) (w : World) (e : Ending) (w' : World) : Prop :=
 ∃ L v, e = .returned v ∧ w'.ownsRow w.heap.size 168 1 v L.length (aZn L) ∧ Lm L ∧ val L = N ∧ L.length ≤ K ∧ Below w.heap.size w w'
theorem bZr {w : World} {base : Nat} {v : Value} {O : List Nat} {X : Int} {d : Nat} (h : w.ownsRow base 168 1 v (O.length + 1) (aZn O ++ [.int .u32 X])) (hX : X = (d : Int)) : w.ownsRow base 168 1 v (O ++ [d]).length (aZn (O ++ [d])) := by
 rw [eZM, List.length_append]
 subst hX
 exact h
theorem cZ8 (X : Int) : ∀ u ∈ ([.int .u32 X] : List Value), u.oneCell' = true := by
 intro u hu
 rw [List.mem_singleton] at hu
 subst hu; rfl
theorem aZQ {w : World} {a : Nat} (h : a ≤ w.heap.size) (o : Obj) : a ≤ (w.alloc o).heap.size := by simp; omega
set_option maxHeartbeats 2000000 in
theorem nZJ (v1 v2 : Value) (l1 l2 : List Nat) (w : World) (h1 : Mg w v1 l1) (h2 : Mg w v2 l2) (hl1 : l1.length ≤ 1099511627776) (hl2 : l2.length ≤ 1099511627776) :
  Calls Tryz.prog 162 #[v1, v2] w (hZh (val l1 + val l2) (max l1.length l2.length + 1) w) := by
 obtain ⟨i0, hi, hx⟩ := Option.map_eq_some_iff.1 kZb
 simp only [Prod.mk.injEq] at hx
 obtain ⟨hz0, hz1, hz2⟩ := hx
 have H1 := Lib.hid h1
 have H2 := Lib.hid h2
 obtain ⟨a1, cap1, rfl, _, _, _, _⟩ := h1.form
 obtain ⟨a2, cap2, rfl, _, _, _, _⟩ := h2.form
 clear h1 h2
 go_enter Tryz.func162, Tryz.ntmps162
 go_wp2_with fail
 go_loopg [5, 6, 7] (max l1.length l2.length) (fun g s5 s6 s7 wr => ∃ (i c : Nat) (O : List Nat), i + g = max l1.length l2.length ∧ s6 = .int .u64 c ∧ s7 = .int .i64 i ∧ SumInv l1 l2 i O c ∧ wr.ownsRow w.heap.size 168 1 s5 O.length (aZn O) ∧ Below w.heap.size w wr)
 case atStart => exact ⟨0, 0, [], oM, rfl, rfl, SumInv.start _ _, World.ownsRow_nil _ _ _ _, Below.refl _ _⟩
 case round =>
  obtain ⟨i, c, O, hig, rfl, rfl, hI, hown, hbel⟩ := hrel
  have hc1 : c ≤ 1 := hI.2.2.1
  have hOl := hI.1
  have HI := Lib.hid hI
  have hsz := hbel.size
  obtain ⟨wo, rfl⟩ : ∃ wo : World, wo = wr := ⟨_, rfl⟩
  cases gk with
  | zero =>
   have hn1 : ¬ (i : Int) < (l1.length : Int) := oM
   have hn2 : ¬ (i : Int) < (l2.length : Int) := oM
   have HE := Lib.hid (hI.done oM oM)
   have HO := Lib.hid hown
   have HBe := Lib.hid hbel
   have hOlen : O.length ≤ 1099511627776 := oM
   have HOL := Lib.hid hOl
   clear hown hbel hI hOl
   have HA3x : Hid (O.length + 1 ≤ maxLen) := by show _ ≤ _; unfold maxLen; omega
   have HA4x : Hid ((O.length + 1) * 4 ≤ 140737488355328) := by show _ ≤ _; omega
   go_wp2_with (at_builtin; refine wpList_append_own _ rfl _ _ 30 rfl w.heap.size 168 i0 (.int .u32 0) 1 4 Tryz.underlying30 hi hz0 hz1 hz2 rfl aD _ _ _ rfl (HO.out.alloc _) ⟨wo.heap.size, 0, none⟩ 1 1 [_] rfl rfl (cell_one_new _ _ _) (cZ8 _) HA3x.out HA4x.out (aZQ hsz _) ?_)
   intro vx wx hownx hgrowx _
   have HX : Hid (wx.ownsRow w.heap.size 168 1 vx (O ++ [c]).length (aZn (O ++ [c])) ∧ Below w.heap.size w wx) :=
    ⟨bZr hownx rfl, (HBe.out.alloc hsz _).grown hgrowx (aZQ hsz _) fun k hk => (HO.out.lt k hk).1⟩
   clear hownx hgrowx
   go_wp2_with fail
   go_ret
   exact ⟨O ++ [c], _, rfl, HX.out.1, HE.out.1, HE.out.2, by have := HOL.out; rw [List.length_append, List.length_singleton]; omega, HX.out.2⟩
  | succ g =>
   have hst := hI.step H1.out.2 H2.out.2
   have HO := Lib.hid hown
   have HBe := Lib.hid hbel
   have hOlen : O.length ≤ 1099511627776 := oM
   have hgetx := cZ9 H1.out.2 i
   have hgety := cZ9 H2.out.2 i
   rw [aZv] at hgetx hgety
   have hways : ∃ x y : Nat, l1[i]?.getD 0 = x ∧ l2[i]?.getD 0 = y ∧ ((i < l1.length ∧ i < l2.length ∧ l1[i]? = some x ∧ l2[i]? = some y) ∨ (i < l1.length ∧ ¬ i < l2.length ∧ l1[i]? = some x ∧ y = 0) ∨ (¬ i < l1.length ∧ i < l2.length ∧ x = 0 ∧ l2[i]? = some y)) := by
    refine ⟨_, _, rfl, rfl, ?_⟩
    by_cases c1 : i < l1.length <;> by_cases c2 : i < l2.length
    ·left; exact ⟨c1, c2, by rw [List.getElem?_eq_getElem c1]; rfl, by rw [List.getElem?_eq_getElem c2]; rfl⟩
    ·right; left; exact ⟨c1, c2, by rw [List.getElem?_eq_getElem c1]; rfl, by rw [List.getElem?_eq_none oM]; rfl⟩
    ·right; right; exact ⟨c1, c2, by rw [List.getElem?_eq_none oM]; rfl, by rw [List.getElem?_eq_getElem c2]; rfl⟩
    ·omega
   obtain ⟨x, y, ex, ey, hways⟩ := hways
   rw [ex, ey] at hst
   rw [ex] at hgetx
   rw [ey] at hgety
   have HST := Lib.hid hst
   clear hst ex ey hI
   have f1 := H1.out.below hbel
   have f2 := H2.out.below hbel
   obtain ⟨a1', cap1', hv1, _, _, _, hr1⟩ := f1.form
   obtain ⟨a2', cap2', hv2, _, _, _, hr2⟩ := f2.form
   injection hv1 with e1 e2 e3
   injection hv2 with e4 e5 e6
   subst e1 e3 e4 e6
   clear e2 e5 f1 f2 hown hbel
   have HOl := Lib.hid hOl
   clear hOl
   rcases hways with ⟨q1, q2, g1, g2⟩ | ⟨q1, q2, g1, rfl⟩ | ⟨q1, q2, rfl, g2⟩
   ·obtain ⟨b1, off1, rfl, hb1, hcl1⟩ := hr1 oM
    obtain ⟨b2, off2, rfl, hb2, hcl2⟩ := hr2 oM
    have c1 := hcl1 i x g1
    have c2 := hcl2 i y g2
    have qi1 : (i : Int) < (l1.length : Int) := oM
    have qi2 : (i : Int) < (l2.length : Int) := oM
    clear hr1 hr2 hcl1 g1 hcl2 g2
    have HA3y0 : Hid (O.length + 1 ≤ maxLen) := by show _ ≤ _; unfold maxLen; omega
    have HA4y0 : Hid ((O.length + 1) * 4 ≤ 140737488355328) := by show _ ≤ _; omega
    go_wp2_with (at_builtin; refine wpList_append_own _ rfl _ _ 30 rfl w.heap.size 168 i0 (.int .u32 0) 1 4 Tryz.underlying30 hi hz0 hz1 hz2 rfl aD _ _ _ rfl (HO.out.alloc _) ⟨wo.heap.size, 0, none⟩ 1 1 [_] rfl rfl (cell_one_new _ _ _) (cZ8 _) HA3y0.out HA4y0.out (aZQ hsz _) ?_)
    intro vy0 wy0 howny0 hgrowy0 _
    have HX : Hid (wy0.ownsRow w.heap.size 168 1 vy0 (O ++ [(c + x + y) % B]).length (aZn (O ++ [(c + x + y) % B])) ∧ Below w.heap.size w wy0) :=
     ⟨bZr howny0 (by rw [aZv]; omega), (HBe.out.alloc hsz _).grown hgrowy0 (aZQ hsz _) fun k hk => (HO.out.lt k hk).1⟩
    clear howny0 hgrowy0
    go_wp2_with fail
    go_roundg g
    case measure => omega
    case rel => exact ⟨i + 1, (c + x + y) / B, _, oM, by rw [aZv]; go_num, by go_num, HST.out, HX.out.1, HX.out.2⟩
   ·obtain ⟨b1, off1, rfl, hb1, hcl1⟩ := hr1 oM
    have c1 := hcl1 i x g1
    have qi1 : (i : Int) < (l1.length : Int) := oM
    have qi2 : ¬ (i : Int) < (l2.length : Int) := oM
    clear hr1 hr2 hcl1 g1 
    have HA3y1 : Hid (O.length + 1 ≤ maxLen) := by show _ ≤ _; unfold maxLen; omega
    have HA4y1 : Hid ((O.length + 1) * 4 ≤ 140737488355328) := by show _ ≤ _; omega
    go_wp2_with (at_builtin; refine wpList_append_own _ rfl _ _ 30 rfl w.heap.size 168 i0 (.int .u32 0) 1 4 Tryz.underlying30 hi hz0 hz1 hz2 rfl aD _ _ _ rfl (HO.out.alloc _) ⟨wo.heap.size, 0, none⟩ 1 1 [_] rfl rfl (cell_one_new _ _ _) (cZ8 _) HA3y1.out HA4y1.out (aZQ hsz _) ?_)
    intro vy1 wy1 howny1 hgrowy1 _
    have HX : Hid (wy1.ownsRow w.heap.size 168 1 vy1 (O ++ [(c + x + 0) % B]).length (aZn (O ++ [(c + x + 0) % B])) ∧ Below w.heap.size w wy1) :=
     ⟨bZr howny1 (by rw [aZv]; omega), (HBe.out.alloc hsz _).grown hgrowy1 (aZQ hsz _) fun k hk => (HO.out.lt k hk).1⟩
    clear howny1 hgrowy1
    go_wp2_with fail
    go_roundg g
    case measure => omega
    case rel => exact ⟨i + 1, (c + x + 0) / B, _, oM, by rw [aZv]; go_num, by go_num, HST.out, HX.out.1, HX.out.2⟩
   ·obtain ⟨b2, off2, rfl, hb2, hcl2⟩ := hr2 oM
    have c2 := hcl2 i y g2
    have qi1 : ¬ (i : Int) < (l1.length : Int) := oM
    have qi2 : (i : Int) < (l2.length : Int) := oM
    clear hr1 hr2  hcl2 g2
    have HA3y2 : Hid (O.length + 1 ≤ maxLen) := by show _ ≤ _; unfold maxLen; omega
    have HA4y2 : Hid ((O.length + 1) * 4 ≤ 140737488355328) := by show _ ≤ _; omega
    go_wp2_with (at_builtin; refine wpList_append_own _ rfl _ _ 30 rfl w.heap.size 168 i0 (.int .u32 0) 1 4 Tryz.underlying30 hi hz0 hz1 hz2 rfl aD _ _ _ rfl (HO.out.alloc _) ⟨wo.heap.size, 0, none⟩ 1 1 [_] rfl rfl (cell_one_new _ _ _) (cZ8 _) HA3y2.out HA4y2.out (aZQ hsz _) ?_)
    intro vy2 wy2 howny2 hgrowy2 _
    have HX : Hid (wy2.ownsRow w.heap.size 168 1 vy2 (O ++ [(c + 0 + y) % B]).length (aZn (O ++ [(c + 0 + y) % B])) ∧ Below w.heap.size w wy2) :=
     ⟨bZr howny2 (by rw [aZv]; omega), (HBe.out.alloc hsz _).grown hgrowy2 (aZQ hsz _) fun k hk => (HO.out.lt k hk).1⟩
    clear howny2 hgrowy2
    go_wp2_with fail
    go_roundg g
    case measure => omega
    case rel => exact ⟨i + 1, (c + 0 + y) / B, _, oM, by rw [aZv]; go_num, by go_num, HST.out, HX.out.1, HX.out.2⟩
set_option maxHeartbeats 2000000 in
theorem nZO (v1 v2 : Value) (l1 l2 : List Nat) (w : World) (h1 : Mg w v1 l1) (h2 : Mg w v2 l2) (hl1 : l1.length ≤ 1099511627776) (hl2 : l2.length ≤ l1.length) (hle : val l2 ≤ val l1) :
  Calls Tryz.prog 163 #[v1, v2] w (hZh (val l1 - val l2) l1.length w) := by
 obtain ⟨i0, hi, hx⟩ := Option.map_eq_some_iff.1 kZb
 simp only [Prod.mk.injEq] at hx
 obtain ⟨hz0, hz1, hz2⟩ := hx
 have H1 := Lib.hid h1
 have H2 := Lib.hid h2
 obtain ⟨a1, cap1, rfl, _, _, _, _⟩ := h1.form
 obtain ⟨a2, cap2, rfl, _, _, _, _⟩ := h2.form
 clear h1 h2
 have HLE := Lib.hid hle
 clear hle
 go_enter Tryz.func163, Tryz.ntmps163
 go_wp2_with fail
 go_loopg [5, 6, 7, 8] l1.length (fun g s5 s6 s7 s8 wr => ∃ (i b : Nat) (O : List Nat), i + g = l1.length ∧ s6 = .int .u64 b ∧ s7 = .int .i64 i ∧ DifInv l1 l2 i O b ∧ wr.ownsRow w.heap.size 168 1 s5 O.length (aZn O) ∧ Below w.heap.size w wr)
 case atStart => exact ⟨0, 0, [], oM, rfl, rfl, DifInv.start _ _, World.ownsRow_nil _ _ _ _, Below.refl _ _⟩
 case round =>
  obtain ⟨i, b, O, hig, rfl, rfl, hI, hown, hbel⟩ := hrel
  have hb1 : b ≤ 1 := hI.2.2.1
  have hOlen : O.length ≤ 1099511627776 := by have := hI.1; omega
  have HOl := Lib.hid hI.1
  have hsz := hbel.size
  obtain ⟨wo, rfl⟩ : ∃ wo : World, wo = wr := ⟨_, rfl⟩
  have HO := Lib.hid hown
  have HBe := Lib.hid hbel
  cases gk with
  | zero =>
   have hn1 : ¬ (i : Int) < (l1.length : Int) := oM
   have HE := Lib.hid (hI.done oM oM HLE.out)
   clear hown hbel hI
   go_wp2_with fail
   go_ret
   exact ⟨O, _, rfl, HO.out, HE.out.1, HE.out.2, by have := HOl.out; omega, HBe.out⟩
  | succ g =>
   have hst := hI.step H1.out.2 H2.out.2
   have hgetx := cZ9 H1.out.2 i
   have hgety := cZ9 H2.out.2 i
   rw [aZv] at hgetx hgety
   have hways : ∃ x y : Nat, l1[i]?.getD 0 = x ∧ l2[i]?.getD 0 = y ∧ l1[i]? = some x ∧ ((i < l2.length ∧ l2[i]? = some y) ∨ (¬ i < l2.length ∧ y = 0)) := by
    refine ⟨_, _, rfl, rfl, by rw [List.getElem?_eq_getElem (show i < l1.length by omega)]; rfl, ?_⟩
    by_cases c2 : i < l2.length
    ·left; exact ⟨c2, by rw [List.getElem?_eq_getElem c2]; rfl⟩
    ·right; exact ⟨c2, by rw [List.getElem?_eq_none oM]; rfl⟩
   obtain ⟨x, y, ex, ey, g1, hways⟩ := hways
   rw [ex, ey] at hst
   rw [ex] at hgetx
   rw [ey] at hgety
   clear ex ey hI
   have f1 := H1.out.below hbel
   have f2 := H2.out.below hbel
   obtain ⟨a1', cap1', hv1, _, _, _, hr1⟩ := f1.form
   obtain ⟨a2', cap2', hv2, _, _, _, hr2⟩ := f2.form
   injection hv1 with e1 e2 e3
   injection hv2 with e4 e5 e6
   subst e1 e3 e4 e6
   obtain ⟨p1, off1, rfl, hp1, hcl1⟩ := hr1 oM
   have c1 := hcl1 i x g1
   have qi1 : (i : Int) < (l1.length : Int) := oM
   have G1 := Lib.hid g1
   clear e2 e5 f1 f2 hown hbel hcl1 g1 hr1
   have hlt : x < b + y ∨ ¬ x < b + y := oM
   rcases hways with ⟨q2, g2⟩ | ⟨q2, rfl⟩
   ·obtain ⟨p2, off2, rfl, hp2, hcl2⟩ := hr2 oM
    have c2 := hcl2 i y g2
    have qi2 : (i : Int) < (l2.length : Int) := oM
    clear hcl2 hr2 g2
    rcases hlt with hlt | hlt
    ·have HST : Hid (DifInv l1 l2 (i + 1) (O ++ [x + B - (b + y)]) 1) := by unfold difD difB at hst; rwa [if_pos hlt, if_pos hlt] at hst
     have hlti : (x : Int) < (b : Int) + (y : Int) := oM
     clear hst
     have HA3y0 : Hid (O.length + 1 ≤ maxLen) := by show _ ≤ _; unfold maxLen; omega
     have HA4y0 : Hid ((O.length + 1) * 4 ≤ 140737488355328) := by show _ ≤ _; omega
     go_wp2_with (at_builtin; refine wpList_append_own _ rfl _ _ 30 rfl w.heap.size 168 i0 (.int .u32 0) 1 4 Tryz.underlying30 hi hz0 hz1 hz2 rfl aD _ _ _ rfl (HO.out.alloc _) ⟨wo.heap.size, 0, none⟩ 1 1 [_] rfl rfl (cell_one_new _ _ _) (cZ8 _) HA3y0.out HA4y0.out (aZQ hsz _) ?_)
     intro vy0 wy0 howny0 hgrowy0 _
     have HX : Hid (wy0.ownsRow w.heap.size 168 1 vy0 (O ++ [x + B - (b + y)]).length (aZn (O ++ [x + B - (b + y)])) ∧ Below w.heap.size w wy0) :=
      ⟨bZr howny0 (by (try rw [IntKind.wrap_u64]); (try rw [aZv]); omega), (HBe.out.alloc hsz _).grown hgrowy0 (aZQ hsz _) fun k hk => (HO.out.lt k hk).1⟩
     have hcc1 : wy0.cell? ⟨p1, off1 + i, none⟩ = some (.int .u32 (x : Nat)) := by
      exact (H1.out.below HX.out.2).cell G1.out
     clear howny0 hgrowy0
     go_wp2_with fail
     go_roundg g
     case measure => omega
     case rel => exact ⟨i + 1, 1, _, oM, rfl, by go_num, HST.out, HX.out.1, HX.out.2⟩
    ·have HST : Hid (DifInv l1 l2 (i + 1) (O ++ [x - (b + y)]) 0) := by unfold difD difB at hst; rwa [if_neg hlt, if_neg hlt] at hst
     have hlti : ¬ (x : Int) < (b : Int) + (y : Int) := oM
     clear hst
     have HA3y1 : Hid (O.length + 1 ≤ maxLen) := by show _ ≤ _; unfold maxLen; omega
     have HA4y1 : Hid ((O.length + 1) * 4 ≤ 140737488355328) := by show _ ≤ _; omega
     go_wp2_with (at_builtin; refine wpList_append_own _ rfl _ _ 30 rfl w.heap.size 168 i0 (.int .u32 0) 1 4 Tryz.underlying30 hi hz0 hz1 hz2 rfl aD _ _ _ rfl (HO.out.alloc _) ⟨wo.heap.size, 0, none⟩ 1 1 [_] rfl rfl (cell_one_new _ _ _) (cZ8 _) HA3y1.out HA4y1.out (aZQ hsz _) ?_)
     intro vy1 wy1 howny1 hgrowy1 _
     have HX : Hid (wy1.ownsRow w.heap.size 168 1 vy1 (O ++ [x - (b + y)]).length (aZn (O ++ [x - (b + y)])) ∧ Below w.heap.size w wy1) :=
      ⟨bZr howny1 (by (try rw [IntKind.wrap_u64]); (try rw [aZv]); omega), (HBe.out.alloc hsz _).grown hgrowy1 (aZQ hsz _) fun k hk => (HO.out.lt k hk).1⟩
     have hcc1 : wy1.cell? ⟨p1, off1 + i, none⟩ = some (.int .u32 (x : Nat)) := by
      exact (H1.out.below HX.out.2).cell G1.out
     clear howny1 hgrowy1
     go_wp2_with fail
     go_roundg g
     case measure => omega
     case rel => exact ⟨i + 1, 0, _, oM, rfl, by go_num, HST.out, HX.out.1, HX.out.2⟩
   ·have qi2 : ¬ (i : Int) < (l2.length : Int) := oM
    clear hr2
    rcases hlt with hlt | hlt
    ·have HST : Hid (DifInv l1 l2 (i + 1) (O ++ [x + B - (b + 0)]) 1) := by unfold difD difB at hst; rwa [if_pos hlt, if_pos hlt] at hst
     have hlti : (x : Int) < (b : Int) := oM
     clear hst
     have HA3y2 : Hid (O.length + 1 ≤ maxLen) := by show _ ≤ _; unfold maxLen; omega
     have HA4y2 : Hid ((O.length + 1) * 4 ≤ 140737488355328) := by show _ ≤ _; omega
     go_wp2_with (at_builtin; refine wpList_append_own _ rfl _ _ 30 rfl w.heap.size 168 i0 (.int .u32 0) 1 4 Tryz.underlying30 hi hz0 hz1 hz2 rfl aD _ _ _ rfl (HO.out.alloc _) ⟨wo.heap.size, 0, none⟩ 1 1 [_] rfl rfl (cell_one_new _ _ _) (cZ8 _) HA3y2.out HA4y2.out (aZQ hsz _) ?_)
     intro vy2 wy2 howny2 hgrowy2 _
     have HX : Hid (wy2.ownsRow w.heap.size 168 1 vy2 (O ++ [x + B - (b + 0)]).length (aZn (O ++ [x + B - (b + 0)])) ∧ Below w.heap.size w wy2) :=
      ⟨bZr howny2 (by (try rw [IntKind.wrap_u64]); (try rw [aZv]); omega), (HBe.out.alloc hsz _).grown hgrowy2 (aZQ hsz _) fun k hk => (HO.out.lt k hk).1⟩
     have hcc1 : wy2.cell? ⟨p1, off1 + i, none⟩ = some (.int .u32 (x : Nat)) := by
      exact (H1.out.below HX.out.2).cell G1.out
     clear howny2 hgrowy2
     go_wp2_with fail
     go_roundg g
     case measure => omega
     case rel => exact ⟨i + 1, 1, _, oM, rfl, by go_num, HST.out, HX.out.1, HX.out.2⟩
    ·have HST : Hid (DifInv l1 l2 (i + 1) (O ++ [x - (b + 0)]) 0) := by unfold difD difB at hst; rwa [if_neg hlt, if_neg hlt] at hst
     have hlti : ¬ (x : Int) < (b : Int) := oM
     clear hst
     have HA3y3 : Hid (O.length + 1 ≤ maxLen) := by show _ ≤ _; unfold maxLen; omega
     have HA4y3 : Hid ((O.length + 1) * 4 ≤ 140737488355328) := by show _ ≤ _; omega
     go_wp2_with (at_builtin; refine wpList_append_own _ rfl _ _ 30 rfl w.heap.size 168 i0 (.int .u32 0) 1 4 Tryz.underlying30 hi hz0 hz1 hz2 rfl aD _ _ _ rfl (HO.out.alloc _) ⟨wo.heap.size, 0, none⟩ 1 1 [_] rfl rfl (cell_one_new _ _ _) (cZ8 _) HA3y3.out HA4y3.out (aZQ hsz _) ?_)
     intro vy3 wy3 howny3 hgrowy3 _
     have HX : Hid (wy3.ownsRow w.heap.size 168 1 vy3 (O ++ [x - (b + 0)]).length (aZn (O ++ [x - (b + 0)])) ∧ Below w.heap.size w wy3) :=
      ⟨bZr howny3 (by (try rw [IntKind.wrap_u64]); (try rw [aZv]); omega), (HBe.out.alloc hsz _).grown hgrowy3 (aZQ hsz _) fun k hk => (HO.out.lt k hk).1⟩
     have hcc1 : wy3.cell? ⟨p1, off1 + i, none⟩ = some (.int .u32 (x : Nat)) := by
      exact (H1.out.below HX.out.2).cell G1.out
     clear howny3 hgrowy3
     go_wp2_with fail
     go_roundg g
     case measure => omega
     case rel => exact ⟨i + 1, 0, _, oM, rfl, by go_num, HST.out, HX.out.1, HX.out.2⟩
end
end Go.Proofs.YtfmjdlogjmofbaaGreatDoor
namespace Go.Proofs.YtfmjdlogjmofbaaGreatDoor.Limb
def DblInv (l : List Nat) (c0 : Nat) (i : Nat) (O : List Nat) (c : Nat) : Prop := O.length = i ∧ Lm O ∧ c ≤ 1 ∧ val O + B ^ i * c = 2 * val (l.take i) + c0
theorem DblInv.start (l : List Nat) {c0 : Nat} (h : c0 ≤ 1) : DblInv l c0 0 [] c0 := ⟨rfl, Lm.nil, h, by simp [val]⟩
theorem DblInv.step {l : List Nat} {c0 i : Nat} {O : List Nat} {c x : Nat} (hl : Lm l) (h : DblInv l c0 i O c) (hx : l[i]? = some x) :
  DblInv l c0 (i + 1) (O ++ [(2 * x) % B + c]) (x / 2147483648) := by
 obtain ⟨a1, a2, a3, a4⟩ := h
 have b1 := hl.get hx
 refine ⟨by simp [a1], bZB a2 (by rw [aZv] at *; omega), by rw [aZv] at b1; omega, ?_⟩
 rw [bZk, aZk, a1, hx, Option.getD_some]
 have : B ^ i * ((2 * x) % B + c) + B ^ (i + 1) * (x / 2147483648) = B ^ i * (2 * x + c) := by
  rw [Nat.pow_succ, Nat.mul_assoc, ← Nat.mul_add]
  congr 1
  rw [aZv] at *; omega
 rw [Nat.add_assoc, this, Nat.mul_add, Nat.mul_add, Nat.mul_left_comm (B ^ i) 2 x]
 omega
theorem DblInv.done {l : List Nat} {c0 i : Nat} {O : List Nat} {c : Nat} (h : DblInv l c0 i O c) (h1 : l.length ≤ i) : Lm (O ++ [c]) ∧ val (O ++ [c]) = 2 * val l + c0 := by
 obtain ⟨a1, a2, a3, a4⟩ := h
 refine ⟨bZB a2 (by rw [aZv]; omega), ?_⟩
 rw [bZk, a1, a4, List.take_of_length_le h1]
end Go.Proofs.YtfmjdlogjmofbaaGreatDoor.Limb
namespace Go.Proofs.YtfmjdlogjmofbaaGreatDoor
section
open Go.RowKit Limb
theorem or_dbl (x c : Nat) (hc : c ≤ 1) : bits .or .u32 ((x : Int) * 2 % 4294967296) (c : Int) = (((2 * x) % B + c : Nat) : Int) := by
 rw [u32_or _ _ oM oM oM oM]
 have e1 : ((x : Int) * 2 % 4294967296).toNat = (2 * x) % B := by rw [aZv]; omega
 rw [e1, Int.toNat_natCast, nat_join 1 _ _ (by rw [aZv]; omega) oM]
set_option maxHeartbeats 2000000 in
theorem iZp (v1 : Value) (l : List Nat) (c0 : Nat) (w : World) (h1 : Mg w v1 l) (hl1 : l.length ≤ 1099511627776) (hc0 : c0 ≤ 1) :
  Calls Tryz.prog 180 #[v1, .int .u32 c0] w (hZh (2 * val l + c0) (l.length + 1) w) := by
 obtain ⟨i0, hi, hx⟩ := Option.map_eq_some_iff.1 kZb
 simp only [Prod.mk.injEq] at hx
 obtain ⟨hz0, hz1, hz2⟩ := hx
 have H1 := Lib.hid h1
 obtain ⟨a1, cap1, rfl, _, _, _, _⟩ := h1.form
 clear h1
 go_enter Tryz.func180, Tryz.ntmps180
 go_wp2_with fail
 go_loopg [1, 5, 7, 10] l.length (fun g s1 s5 s7 s10 wr => ∃ (i c : Nat) (O : List Nat), i + g = l.length ∧ s1 = .int .u32 c ∧ s10 = .int .i64 i ∧ DblInv l c0 i O c ∧ wr.ownsRow w.heap.size 168 1 s5 O.length (aZn O) ∧ Below w.heap.size w wr)
 case atStart => exact ⟨0, c0, [], oM, rfl, rfl, DblInv.start _ hc0, World.ownsRow_nil _ _ _ _, Below.refl _ _⟩
 case round =>
  obtain ⟨i, c, O, hig, rfl, rfl, hI, hown, hbel⟩ := hrel
  have hc1 : c ≤ 1 := hI.2.2.1
  have hOlen : O.length ≤ 1099511627776 := by have := hI.1; omega
  have HOl := Lib.hid hI.1
  have hsz := hbel.size
  obtain ⟨wo, rfl⟩ : ∃ wo : World, wo = wr := ⟨_, rfl⟩
  have HO := Lib.hid hown
  have HBe := Lib.hid hbel
  cases gk with
  | zero =>
   have hn1 : ¬ (i : Int) < (l.length : Int) := oM
   have HE := Lib.hid (hI.done oM)
   clear hown hbel hI
   have HA3x : Hid (O.length + 1 ≤ maxLen) := by show _ ≤ _; unfold maxLen; omega
   have HA4x : Hid ((O.length + 1) * 4 ≤ 140737488355328) := by show _ ≤ _; omega
   go_wp2_with (at_builtin; refine wpList_append_own _ rfl _ _ 30 rfl w.heap.size 168 i0 (.int .u32 0) 1 4 Tryz.underlying30 hi hz0 hz1 hz2 rfl aD _ _ _ rfl (HO.out.alloc _) ⟨wo.heap.size, 0, none⟩ 1 1 [_] rfl rfl (cell_one_new _ _ _) (cZ8 _) HA3x.out HA4x.out (aZQ hsz _) ?_)
   intro vx wx hownx hgrowx _
   have HX : Hid (wx.ownsRow w.heap.size 168 1 vx (O ++ [c]).length (aZn (O ++ [c])) ∧ Below w.heap.size w wx) :=
    ⟨bZr hownx rfl, (HBe.out.alloc hsz _).grown hgrowx (aZQ hsz _) fun k hk => (HO.out.lt k hk).1⟩
   clear hownx hgrowx
   go_wp2_with fail
   go_ret
   exact ⟨O ++ [c], _, rfl, HX.out.1, HE.out.1, HE.out.2, by have := HOl.out; rw [List.length_append, List.length_singleton]; omega, HX.out.2⟩
  | succ g =>
   obtain ⟨x, hx⟩ : ∃ x, l[i]? = some x := ⟨_, List.getElem?_eq_getElem oM⟩
   have HST := Lib.hid (hI.step H1.out.2 hx)
   have hxB := H1.out.2.get hx
   rw [aZv] at hxB
   have f1 := H1.out.below hbel
   obtain ⟨a1', cap1', hv1, _, _, _, hr1⟩ := f1.form
   injection hv1 with e1 e2 e3
   subst e1 e3
   obtain ⟨p1, off1, rfl, hp1, hcl1⟩ := hr1 oM
   have c1 := hcl1 i x hx
   have qi1 : (i : Int) < (l.length : Int) := oM
   clear e2 f1 hown hbel hcl1 hr1 hx hI
   have HA3y : Hid (O.length + 1 ≤ maxLen) := by show _ ≤ _; unfold maxLen; omega
   have HA4y : Hid ((O.length + 1) * 4 ≤ 140737488355328) := by show _ ≤ _; omega
   go_wp2_with (at_builtin; refine wpList_append_own _ rfl _ _ 30 rfl w.heap.size 168 i0 (.int .u32 0) 1 4 Tryz.underlying30 hi hz0 hz1 hz2 rfl aD _ _ _ rfl (HO.out.alloc _) ⟨wo.heap.size, 0, none⟩ 1 1 [_] rfl rfl (cell_one_new _ _ _) (cZ8 _) HA3y.out HA4y.out (aZQ hsz _) ?_)
   intro vy wy howny hgrowy _
   have HX : Hid (wy.ownsRow w.heap.size 168 1 vy (O ++ [(2 * x) % B + c]).length (aZn (O ++ [(2 * x) % B + c])) ∧ Below w.heap.size w wy) :=
    ⟨bZr howny (or_dbl x c hc1), (HBe.out.alloc hsz _).grown hgrowy (aZQ hsz _) fun k hk => (HO.out.lt k hk).1⟩
   clear howny hgrowy
   go_wp2_with fail
   go_roundg g
   case measure => omega
   case rel => exact ⟨i + 1, x / 2147483648, _, oM, by go_num, by go_num, HST.out, HX.out.1, HX.out.2⟩
theorem or_low (u x : Nat) (hu : u < 4294967296) (hx : x < 4294967296) : bits .or .u64 (u : Int) ((x : Int) * 4294967296) = ((u + B * x : Nat) : Int) := by
 rw [u64_or _ _ oM oM oM oM]
 have e1 : ((x : Int) * 4294967296).toNat = B * x := by rw [aZv]; omega
 rw [e1, Int.toNat_natCast, Nat.or_comm, nat_join 32 _ _ (by rw [aZv]; omega) oM, Nat.add_comm]
theorem or_zero (x : Nat) (hx : x < 4294967296) : bits .or .u64 0 (x : Int) = (x : Int) := by
 rw [u64_or _ _ oM oM oM oM]
 simp
set_option maxHeartbeats 2000000 in
theorem gZt (v1 : Value) (l : List Nat) (w : World) (h1 : Mg w v1 l) (hl1 : l.length ≤ 2) :
  Calls Tryz.prog 61 #[v1] w fun e w' => e = .returned (.int .u64 (val l : Nat)) ∧ w = w' := by
 have HL := Lib.hid h1.2
 obtain ⟨a1, cap1, rfl, _, _, _, hr⟩ := h1.form
 have HR := Lib.hid hr
 clear hr h1
 go_enter Tryz.func61, Tryz.ntmps61
 go_wp2_with fail
 go_loopg [3, 4] l.length (fun g s3 s4 wr => ∃ (i u : Nat), i + g = l.length ∧ s3 = .int .u64 u ∧ s4 = .int .i64 i ∧ u = val (l.take i) ∧ w = wr)
 case atStart => exact ⟨0, 0, oM, rfl, rfl, by simp [val], rfl⟩
 case round =>
  obtain ⟨i, u, hig, rfl, rfl, hu, rfl⟩ := hrel
  have HU := Lib.hid hu
  clear hu
  cases gk with
  | zero =>
   have hn1 : ¬ (i : Int) < (l.length : Int) := oM
   have HE : Hid (u = val l) := by show u = val l; rw [HU.out, List.take_of_length_le oM]
   go_wp2_with fail
   go_ret
   exact ⟨cZU (by rw [HE.out]), rfl⟩
  | succ g =>
   obtain ⟨x, hx⟩ : ∃ x, l[i]? = some x := ⟨_, List.getElem?_eq_getElem oM⟩
   have hxB := HL.out.get hx
   rw [aZv] at hxB
   obtain ⟨b, off, rfl, hb, hc⟩ := HR.out oM
   have c1 := hc i x hx
   have hqi : (i : Int) < (l.length : Int) := oM
   have HST : Hid (u + B ^ i * x = val (l.take (i + 1))) := by show _ = _; rw [aZk, hx, HU.out]; rfl
   clear hc hx
   rcases (show i = 0 ∨ i = 1 by omega) with h0 | h0
   ·subst h0
    obtain rfl : u = 0 := by have := HU.out; simpa [val] using this
    simp only [Nat.add_zero] at c1
    go_wp2_with fail
    go_roundg g
    case measure => omega
    case rel => exact ⟨1, x, oM, by rw [or_zero x hxB], rfl, by have := HST.out; simpa using this, rfl⟩
   ·subst h0
    have hu : u < 4294967296 := by
     have := HU.out
     have h1 := bZ2 (HL.out.take 1)
     rw [← this, List.length_take, aZv] at h1
     have : (4294967296 : Nat) ^ min 1 l.length ≤ 4294967296 := by
      rw [Nat.min_eq_left oM]; decide
     omega
    go_wp2_with fail
    go_roundg g
    case measure => omega
    case rel => exact ⟨2, u + B * x, oM, by rw [or_low u x hu hxB], rfl, by have := HST.out; simpa using this, rfl⟩
end
section
open Go.RowKit Limb
theorem ca_drew {w : World} {a : Addr} : w.drew.cell? a = w.cell? a := rfl
theorem ca_past {w : World} {o : Obj} {b i : Nat} (h : b < w.heap.size) : (w.alloc o).cell? ⟨b, i, none⟩ = w.cell? ⟨b, i, none⟩ := World.cell?_of_block (Below.heap_alloc w o b h)
theorem pZi {w : World} {p : Addr} {u : Value} {b i : Nat} (h : b ≠ p.block) : (w.setCell p u).cell? ⟨b, i, none⟩ = w.cell? ⟨b, i, none⟩ := World.cell?_of_block (Below.heap_setCell w p u b h)
theorem fZ7 {l : List Nat} {k : Nat} (h : l.length ≤ k) (hl : Lm l) : (digs (val l)).length ≤ k := Nat.le_trans (aZw (bZ2 hl)) h
end
section
open Go.RowKit Limb
theorem sz_neg (z : Int) : sz (-z) = sz z := by unfold sz; rw [Int.natAbs_neg]
end
section
open Go.RowKit Limb
def DivPost (x y : Nat) (w : World) (e : Ending) (w' : World) : Prop :=
 ∃ a n cap a' n' cap', e = .returned (.tuple #[.slice a n cap, .slice a' n' cap']) ∧ Mg w' (.slice a n cap) (digs (x / y)) ∧ Mg w' (.slice a' n' cap') (digs (x % y)) ∧ n = (digs (x / y)).length ∧ n' = (digs (x % y)).length ∧ Fr w.heap.size a ∧ Fr w.heap.size a' ∧ Below w.heap.size w w'
def DivOK (x y : Nat) : Prop := ∀ (W : World) (v1 v2 : Value), Mg W v1 (digs x) → Mg W v2 (digs y) → Calls Tryz.prog 161 #[v1, v2] W (DivPost x y W)
theorem fZN {l : List Nat} (h : Lm l) (hl : l.length ≤ 2) : val l < 18446744073709551616 := by
 have h1 := bZ2 h
 have : B ^ l.length ≤ B ^ 2 := Nat.pow_le_pow_right aZY hl
 have e : B ^ 2 = 18446744073709551616 := by decide
 omega
theorem run_mag (s : Bool) (a : Option Addr) (n cap : Nat) (w : World) : Sem.run Tryz.prog (Instr.field 32 (.agg #[.bool s, .slice a n cap]) 1) w = .ok (.slice a n cap) w := by kernel_rfl
attribute [local go_sem] run_mag
set_option maxHeartbeats 4000000 in
theorem gZv (x y : Nat) (hy : y ≠ 0) (hx2 : (digs x).length ≤ 2) (hy2 : (digs y).length ≤ 2) : DivOK x y := by
 intro w v1 v2 h1 h2
 have hyi : ((y : Int) == 0) = false := by rw [beq_eq_false_iff_ne]; omega
 have hx2i : ((digs x).length : Int) ≤ 2 := oM
 have hy2i : ((digs y).length : Int) ≤ 2 := oM
 have hypos : (0 : Int) < (y : Int) := oM
 have bx := fZN (aZg x) hx2
 have by' := fZN (aZg y) hy2
 rw [aZi] at bx by'
 have L1 := Lib.hid (gZt v1 _ w h1 hx2)
 have L2 := Lib.hid (gZt v2 _ w h2 hy2)
 rw [aZi] at L1 L2
 have hq : x / y < 18446744073709551616 := Nat.lt_of_le_of_lt (Nat.div_le_self _ _) bx
 have hr : x % y < 18446744073709551616 := Nat.lt_of_le_of_lt (Nat.mod_le _ _) bx
 have W1 : Hid (∀ W (z : Int), z = ((x / y : Nat) : Int) → Calls Tryz.prog 103 #[.bool false, .int .u64 z] W (hZf ((x / y : Nat) : Int) W)) := Lib.hid (fun W z hz => by rw [hz]; exact dZL false (x / y) W ((x / y : Nat) : Int) hq rfl)
 have W2 : Hid (∀ W (z : Int), z = ((x % y : Nat) : Int) → Calls Tryz.prog 103 #[.bool false, .int .u64 z] W (hZf ((x % y : Nat) : Int) W)) := Lib.hid (fun W z hz => by rw [hz]; exact dZL false (x % y) W ((x % y : Nat) : Int) hr rfl)
 have e1 : Hid (IntKind.u64.wrap ((x : Int) / (y : Int)) = ((x / y : Nat) : Int)) := by
  show _ = _
  rw [← Int.natCast_ediv]
  exact IntWalk.u64_in _ ⟨Int.natCast_nonneg _, oM⟩
 have e2 : Hid (IntKind.u64.wrap ((x : Int) % (y : Int)) = ((x % y : Nat) : Int)) := by
  show _ = _
  rw [← Int.natCast_emod]
  exact IntWalk.u64_in _ ⟨Int.natCast_nonneg _, oM⟩
 have HB0 := Lib.hid (Below.refl w.heap.size w)
 obtain ⟨a1, cap1, rfl, qa1, qa2, qa3, qa4⟩ := h1.form
 clear qa1 qa2 qa3 qa4
 obtain ⟨a2, cap2, rfl, qa1, qa2, qa3, qa4⟩ := h2.form
 clear qa1 qa2 qa3 qa4
 clear h1 h2
 have tok1 : True := trivial
 go_enter Tryz.func161, Tryz.ntmps161
 go_wp2_with (first | (go_at_call 61; have _t := tok1; clear tok1; refine L1.out.mono ?_; rintro e w' ⟨rfl, rfl⟩) | (go_at_call 61; refine L2.out.mono ?_; rintro e w' ⟨rfl, rfl⟩))
 have tok1 : True := trivial
 go_region_held3 (fun W => True) (((try dsimp only); (repeat' apply And.intro) <;> (first | assumption | go_keep | (go_split_ands; (repeat (first | rw [pZi (by first | omega | (simp; done) | (simp; omega))] | rw [ca_past (by first | omega | (simp; done) | (simp; omega))] | rw [ca_drew])); assumption))))
  (first | (go_at_call 103; have _t := tok1; clear tok1; refine (W1.out _ _ ?_).mono ?_; exact e1.out; rintro e w1 ⟨s1, a1, n1, cap1, rfl, hz1, hfr1, hb1⟩; have HZ1 := Lib.hid hz1; have HFr1 := Lib.hid hfr1; clear hz1 hfr1; obtain ⟨hc1, hf1⟩ := hZd hb1; have hs1 := hb1.size; (try simp at hs1); have HB1 := Lib.hid (bZ1 HB0.out.drew hb1 (by first | omega | (simp; done) | (simp; omega))); clear hc1 hf1) | (go_at_call 103; refine (W2.out _ _ ?_).mono ?_; exact (by rw [Int.natCast_emod]; exact Int.tmod_eq_emod_of_nonneg (Int.natCast_nonneg _)); rintro e w2 ⟨s2, a2, n2, cap2, rfl, hz2, hfr2, hb2⟩; have HZ2 := Lib.hid hz2; have HFr2 := Lib.hid hfr2; clear hz2 hfr2; obtain ⟨hc2, hf2⟩ := hZd hb2; have hs2 := hb2.size; (try simp at hs2); have HB2 := Lib.hid (bZ1 HB1.out hb2 (by first | omega | (simp; done) | (simp; omega))); clear hc2 hf2))
 go_wp2
 go_ret2
 refine ⟨_, _, _, _, _, _, rfl, HZ1.out.2.2.below hb2, HZ2.out.2.2, HZ1.out.2.1, HZ2.out.2.1, HFr1.out.mono (by first | omega | (simp; done) | (simp; omega)), HFr2.out.mono (by first | omega | (simp; done) | (simp; omega)), HB2.out⟩
end
end Go.Proofs.YtfmjdlogjmofbaaGreatDoor

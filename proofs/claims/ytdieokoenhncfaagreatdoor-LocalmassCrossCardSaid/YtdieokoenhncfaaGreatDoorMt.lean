/- A scene's symbol that is handed to a law: its struct, opened. For any program. -/
import Derived.Test.YtdieokoenhncfaaGreatDoorSc
import Derived.OpenShut
import Derived.ChangeSlices
import Derived.ChangeSame
import Derived.WalkKit
import Derived.ProofKit
import Derived.Test.YtdieokoenhncfaaGreatDoorMc
import Derived.Test.YtdieokoenhncfaaGreatDoorMp
import Derived.Test.YtdieokoenhncfaaGreatDoorLt
import Derived.Lib.LaidTab
set_option maxRecDepth 3000
namespace Go.Proofs.YtdieokoenhncfaaGreatDoor
open Go.RowKit Limb Go.ChangeShapes Go.WideShapes
def wGH (W : World) : GH := fun b o => W.cell? ⟨b, o, none⟩
theorem iZI (W : World) : Holds (wGH W) W := fun _ _ _ h => h
def byv (x : By) : List Value := [.int .u8 (x.b 0), .int .u8 (x.b 1), .int .u8 (x.b 2), .int .u8 (x.b 3), .int .u8 (x.b 4)]
def byvs (x : Nat → By) (n : Nat) : List Value := (List.range n).flatMap fun i => byv (x i)
theorem lZY (x : Nat → By) (n : Nat) : rows (bys x) n = (byvs x n).map ex := by
 unfold rows byvs
 rw [List.map_flatMap]
 rfl
theorem gZs (x : Nat → By) (n : Nat) : byvs x (n + 1) = byvs x n ++ byv (x n) := by unfold byvs; rw [List.range_succ, List.flatMap_append]; simp
theorem hZW (x : Nat → By) : ∀ n, (byvs x n).length = n * 5
 | 0 => rfl
 | n + 1 => by rw [gZs, List.length_append, hZW x n, Nat.succ_mul]; rfl
theorem lZX (x : Nat → By) (n : Nat) : ∀ v ∈ byvs x n, v.oneCell' = true := by
 intro v hv
 obtain ⟨i, _, hi⟩ := List.mem_flatMap.1 hv
 simp only [byv, List.mem_cons, List.not_mem_nil, or_false] at hi
 rcases hi with rfl | rfl | rfl | rfl | rfl <;> rfl
theorem gZt {W : World} {b off : Nat} (x : Nat → By) : ∀ (n : Nat), (∀ i r, i < n → r < 5 → W.cell? ⟨b, off + i * 5 + r, none⟩ = some (.int .u8 ((x i).b r))) → ∀ j u, (byvs x n)[j]? = some u → W.cell? ⟨b, off + j, none⟩ = some u
 | 0, _, j, u, h => by simp [byvs] at h
 | n + 1, H, j, u, h => by
  rw [gZs] at h
  have hl := hZW x n
  rcases Nat.lt_or_ge j (n * 5) with hj | hj
  ·rw [List.getElem?_append_left (by omega)] at h
   exact gZt x n (fun i r hi hr => H i r (by omega) hr) j u h
  ·rw [List.getElem?_append_right (by omega), hl] at h
   obtain ⟨r, rfl⟩ : ∃ r, j = n * 5 + r := ⟨j - n * 5, by omega⟩
   rw [show n * 5 + r - n * 5 = r by omega] at h
   have hr : r < 5 := (List.getElem?_eq_some_iff.1 h).1
   have hc := H n r (by omega) hr
   rw [← Nat.add_assoc, hc, ← h]
   match r, hr with
   | 0, _ => rfl
   | 1, _ => rfl
   | 2, _ => rfl
   | 3, _ => rfl
   | 4, _ => rfl
section
variable {H : Type} {enc : TypeId × Value → H} {P : Program} {W : World} {base : Nat} {T t8 ts te : TypeId} {f0 f1 : Field}
theorem jZy {fuel : Nat} {sp : Nat → Bool} {held : Bool} {cs : List Value} {y : DataW H × List MemPlace} (h8 : P.underlying t8 = some (.int .u8)) (c0 : P.cellsOf t8 = 1) (he : P.underlying te = some (.array 5 t8)) (ce : P.cellsOf te = 5)
  (h : DataW.trod enc P W base sp held fuel te cs = some y) : ∃ x : By, cs = byv x := by
 obtain ⟨xs, m, _, hx, hl, hlen, hf⟩ := DataW.trod_array he h
 rw [ce] at hl
 obtain ⟨u0, u1, u2, u3, u4, rfl⟩ : ∃ u0 u1 u2 u3 u4, cs = [u0, u1, u2, u3, u4] := by
  match cs, hl with
  | [u0, u1, u2, u3, u4], _ => exact ⟨u0, u1, u2, u3, u4, rfl⟩
 obtain ⟨y0, y1, y2, y3, y4, rfl⟩ : ∃ y0 y1 y2 y3 y4, xs = [y0, y1, y2, y3, y4] := by
  match xs, hlen with
  | [y0, y1, y2, y3, y4], _ => exact ⟨y0, y1, y2, y3, y4, rfl⟩
 have g0 := hf 0 (by omega)
 have g1 := hf 1 (by omega)
 have g2 := hf 2 (by omega)
 have g3 := hf 3 (by omega)
 have g4 := hf 4 (by omega)
 rw [c0] at g0 g1 g2 g3 g4
 obtain ⟨z0, e0, _, w0⟩ := DataW.trod_int h8 (show DataW.trod enc P W base sp held m t8 [u0] = some y0 from g0)
 obtain ⟨z1, e1, _, w1⟩ := DataW.trod_int h8 (show DataW.trod enc P W base sp held m t8 [u1] = some y1 from g1)
 obtain ⟨z2, e2, _, w2⟩ := DataW.trod_int h8 (show DataW.trod enc P W base sp held m t8 [u2] = some y2 from g2)
 obtain ⟨z3, e3, _, w3⟩ := DataW.trod_int h8 (show DataW.trod enc P W base sp held m t8 [u3] = some y3 from g3)
 obtain ⟨z4, e4, _, w4⟩ := DataW.trod_int h8 (show DataW.trod enc P W base sp held m t8 [u4] = some y4 from g4)
 simp at e0 e1 e2 e3 e4
 subst e0 e1 e2 e3 e4
 have b0 := bounds_u8 w0
 have b1 := bounds_u8 w1
 have b2 := bounds_u8 w2
 have b3 := bounds_u8 w3
 have b4 := bounds_u8 w4
 refine ⟨⟨fun j => match j with | 0 => z0 | 1 => z1 | 2 => z2 | 3 => z3 | _ => z4, fun j => ?_, fun j => ?_⟩, rfl⟩
 ·split <;> omega
 ·split <;> omega
theorem hZ0 {v : Value} {d : DataW H} {p : List MemPlace} (hT : P.underlying T = some (.struct #[f0, f1])) (h0 : f0.type = t8) (o0 : f0.offset = 0) (h1 : f1.type = ts) (o1 : f1.offset = 1) (cT : P.cellsOf T = 2) (c0 : P.cellsOf t8 = 1) (c1 : P.cellsOf ts = 1)
  (h8 : P.underlying t8 = some (.int .u8)) (hs : P.underlying ts = some (.slice te)) (he : P.underlying te = some (.array 5 t8)) (ce : P.cellsOf te = 5)
  (hval : Value.okWide P W .any base T v) (h : DataW.Trod enc P W 0 (fun _ => true) true T v d p) :
  ∃ pk x m, (Lit.int .u8 pk).wf = true ∧ (aggP [ex (.int .u8 pk), slc 5 (rows (bys x) m) m]).p (wGH W) v := by
 obtain ⟨cs, rfl, hsz⟩ := okWide_struct hT hval
 obtain ⟨fuel, hf⟩ := h
 have hf : DataW.trod enc P W 0 (fun _ => true) true fuel T cs.toList = some (d, p) := hf
 obtain ⟨y0, y1, n, hx, hl, g0, g1⟩ := trod_struct2 hT hf
 rw [h0, o0, c0] at g0
 rw [h1, o1, c1] at g1
 obtain ⟨u0, u1, hcs⟩ : ∃ u0 u1, cs.toList = [u0, u1] := by
  rw [cT] at hl
  match hc : cs.toList, hl with
  | [u0, u1], _ => exact ⟨u0, u1, rfl⟩
 rw [hcs] at g0 g1
 obtain ⟨pk, e0, _, wpk⟩ := DataW.trod_int h8 (show DataW.trod enc P W 0 (fun _ => true) true n t8 [u0] = some y0 from g0)
 simp at e0
 subst e0
 have hag : cs = #[.int .u8 pk, u1] := by rw [← Array.toList_inj]; exact hcs
 subst hag
 have key : ∃ x m, (slc 5 (rows (bys x) m) m).p (wGH W) u1 := by
  rcases DataW.trod_slice hs (show DataW.trod enc P W 0 (fun _ => true) true n ts [u1] = some y1 from g1) with ⟨e1, _⟩ | ⟨a, len, cap, elems, rest, m, _, e1, _, hb, hlc, hcm, hlen, hel, _, _⟩
  ·simp at e1
   subst e1
   exact ⟨fun _ => ⟨fun _ => 0, fun _ => by omega, fun _ => by omega⟩, 0, none, 0, rfl, Nat.le_refl _, Nat.zero_le _, fun _ => rfl, rfl, fun hn => absurd rfl hn⟩
  ·simp at e1
   subst e1
   have each : ∀ i, i < len → ∃ x : By, W.cells? 0 (a.add (i * 5)) 5 = some (byv x) := by
    intro i hi
    have h2 := hel i hi
    rw [ce, List.getElem?_eq_getElem (by omega)] at h2
    obtain ⟨cs', q1, q2⟩ := Option.bind_eq_some_iff.1 h2
    obtain ⟨x, rfl⟩ := jZy h8 c0 he ce q2
    exact ⟨x, q1⟩
   have hch : ∃ x : Nat → By, ∀ i, i < len → W.cells? 0 (a.add (i * 5)) 5 = some (byv (x i)) := by
    refine ⟨fun i => if hi : i < len then (each i hi).choose else ⟨fun _ => 0, fun _ => by omega, fun _ => by omega⟩, fun i hi => ?_⟩
    dsimp only
    rw [dif_pos hi]
    exact (each i hi).choose_spec
   obtain ⟨x, hxx⟩ := hch
   refine ⟨x, len, some a, cap, rfl, hlc, hcm, (fun h => by cases h), aZ3 (gZT x) len, fun hne => ?_⟩
   have hpos : 0 < len := by
    rcases Nat.eq_zero_or_pos len with h | h
    ·subst h; exact absurd rfl hne
    ·exact h
   have hcell : ∀ i r, i < len → r < 5 → W.cell? ((a.add (i * 5)).add r) = some (.int .u8 ((x i).b r)) := by
    intro i r hi hr
    have := (World.cells?_some (hxx i hi)).2.2 r hr
    rw [this]
    match r, hr with
    | 0, _ => rfl
    | 1, _ => rfl
    | 2, _ => rfl
    | 3, _ => rfl
    | 4, _ => rfl
   obtain ⟨bb, off, spot⟩ := a
   have hspot : spot = none := by
    have h00 := hcell 0 0 hpos (by omega)
    have := World.cell?_spot h00
    simpa [Addr.add] using this
   subst hspot
   refine ⟨bb, off, byvs x len, rfl, by rw [lZY]; exact cZA (lZX x len), gZt x len fun i r hi hr => ?_⟩
   have := hcell i r hi hr
   rwa [Addr.add_mid, Addr.add_mid] at this
 obtain ⟨x, m, hk⟩ := key
 exact ⟨pk, x, m, wpk, [.int .u8 pk, u1], rfl, rfl, rfl, hk, C1.c1 _ _ hk, trivial⟩
end
end Go.Proofs.YtdieokoenhncfaaGreatDoor
/- A symbol that is handed to a law: its struct, opened. For any program. -/
namespace Go.Proofs.YtdieokoenhncfaaGreatDoor
open Go.RowKit Limb Go.ChangeShapes Go.WideShapes
def cov (c : Co) : List Value := [.int .i64 c.e, .int .i64 c.d, .int .i64 c.s, .bool c.o, .int .i64 c.y]
def covs (f : Nat → Co) (n : Nat) : List Value := (List.range n).flatMap fun i => cov (f i)
theorem lZV (f : Nat → Co) (n : Nat) : rows (ccs f) n = (covs f n).map ex := by
 unfold rows covs
 rw [List.map_flatMap]
 rfl
theorem gZp (f : Nat → Co) (n : Nat) : covs f (n + 1) = covs f n ++ cov (f n) := by unfold covs; rw [List.range_succ, List.flatMap_append]; simp
theorem hZT (f : Nat → Co) : ∀ n, (covs f n).length = n * 5
 | 0 => rfl
 | n + 1 => by rw [gZp, List.length_append, hZT f n, Nat.succ_mul]; rfl
theorem lZG (f : Nat → Co) (n : Nat) : ∀ v ∈ covs f n, v.oneCell' = true := by
 intro v hv
 obtain ⟨i, _, hi⟩ := List.mem_flatMap.1 hv
 simp only [cov, List.mem_cons, List.not_mem_nil, or_false] at hi
 rcases hi with rfl | rfl | rfl | rfl | rfl <;> rfl
theorem gZq {W : World} {b off : Nat} (f : Nat → Co) : ∀ (n : Nat), (∀ i r u, i < n → (cov (f i))[r]? = some u → W.cell? ⟨b, off + i * 5 + r, none⟩ = some u) → ∀ j u, (covs f n)[j]? = some u → W.cell? ⟨b, off + j, none⟩ = some u
 | 0, _, j, u, h => by simp [covs] at h
 | n + 1, H, j, u, h => by
  rw [gZp] at h
  have hl := hZT f n
  rcases Nat.lt_or_ge j (n * 5) with hj | hj
  ·rw [List.getElem?_append_left (by omega)] at h
   exact gZq f n (fun i r u hi hr => H i r u (by omega) hr) j u h
  ·rw [List.getElem?_append_right (by omega), hl] at h
   obtain ⟨r, rfl⟩ : ∃ r, j = n * 5 + r := ⟨j - n * 5, by omega⟩
   rw [show n * 5 + r - n * 5 = r by omega] at h
   have hc := H n r u (by omega) h
   rw [← Nat.add_assoc, hc]
section
variable {H : Type} {enc : TypeId × Value → H} {P : Program} {W : World} {base : Nat} {T ti tb t6 ts te : TypeId} {f0 f1 f2 f3 f4 : Field}
theorem fZI {t : TypeId} {sp : Nat → Bool} {held : Bool} {fuel : Nat} {cs : List Value} {x : DataW H × List MemPlace} (ht : P.underlying t = some (.struct #[f0, f1, f2, f3, f4])) (h : DataW.trod enc P W base sp held fuel t cs = some x) :
  ∃ y0 y1 y2 y3 y4 n, cs.length = P.cellsOf t ∧ DataW.trod enc P W base sp held n f0.type ((cs.drop f0.offset).take (P.cellsOf f0.type)) = some y0 ∧ DataW.trod enc P W base sp held n f1.type ((cs.drop f1.offset).take (P.cellsOf f1.type)) = some y1 ∧
   DataW.trod enc P W base sp held n f2.type ((cs.drop f2.offset).take (P.cellsOf f2.type)) = some y2 ∧ DataW.trod enc P W base sp held n f3.type ((cs.drop f3.offset).take (P.cellsOf f3.type)) = some y3 ∧ DataW.trod enc P W base sp held n f4.type ((cs.drop f4.offset).take (P.cellsOf f4.type)) = some y4 := by
 obtain ⟨xs, n, _, rfl, hl, hlen, hf⟩ := DataW.trod_struct ht h
 match xs, hlen with
 | [y0, y1, y2, y3, y4], _ => exact ⟨y0, y1, y2, y3, y4, n, hl, by simpa using hf 0 f0 rfl, by simpa using hf 1 f1 rfl, by simpa using hf 2 f2 rfl, by simpa using hf 3 f3 rfl, by simpa using hf 4 f4 rfl⟩
theorem open_co {fuel : Nat} {sp : Nat → Bool} {held : Bool} {cs : List Value} {y : DataW H × List MemPlace} (he : P.underlying te = some (.struct #[f0, f1, f2, f3, f4])) (ce : P.cellsOf te = 5)
  (t0 : f0.type = ti) (t1 : f1.type = ti) (t2 : f2.type = ti) (t3 : f3.type = tb) (t4 : f4.type = ti) (o0 : f0.offset = 0) (o1 : f1.offset = 1) (o2 : f2.offset = 2) (o3 : f3.offset = 3) (o4 : f4.offset = 4)
  (hi : P.underlying ti = some (.int .i64)) (hb : P.underlying tb = some .bool) (ci : P.cellsOf ti = 1) (cb : P.cellsOf tb = 1)
  (h : DataW.trod enc P W base sp held fuel te cs = some y) : ∃ c : Co, cs = cov c := by
 obtain ⟨y0, y1, y2, y3, y4, n, hl, g0, g1, g2, g3, g4⟩ := fZI he h
 rw [ce] at hl
 obtain ⟨u0, u1, u2, u3, u4, rfl⟩ : ∃ u0 u1 u2 u3 u4, cs = [u0, u1, u2, u3, u4] := by
  match cs, hl with
  | [u0, u1, u2, u3, u4], _ => exact ⟨u0, u1, u2, u3, u4, rfl⟩
 rw [t0, o0, ci] at g0
 rw [t1, o1, ci] at g1
 rw [t2, o2, ci] at g2
 rw [t3, o3, cb] at g3
 rw [t4, o4, ci] at g4
 obtain ⟨z0, e0, _, _⟩ := DataW.trod_int hi (show DataW.trod enc P W base sp held n ti [u0] = some y0 from g0)
 obtain ⟨z1, e1, _, _⟩ := DataW.trod_int hi (show DataW.trod enc P W base sp held n ti [u1] = some y1 from g1)
 obtain ⟨z2, e2, _, _⟩ := DataW.trod_int hi (show DataW.trod enc P W base sp held n ti [u2] = some y2 from g2)
 obtain ⟨z3, e3, _⟩ := DataW.trod_bool hb (show DataW.trod enc P W base sp held n tb [u3] = some y3 from g3)
 obtain ⟨z4, e4, _, _⟩ := DataW.trod_int hi (show DataW.trod enc P W base sp held n ti [u4] = some y4 from g4)
 simp at e0 e1 e2 e3 e4
 subst e0 e1 e2 e3 e4
 exact ⟨⟨z0, z1, z2, z3, z4⟩, rfl⟩
theorem hZ1 {g0 g1 : Field} {v : Value} {d : DataW H} {p : List MemPlace} (hT : P.underlying T = some (.struct #[g0, g1])) (h0 : g0.type = t6) (o0 : g0.offset = 0) (h1 : g1.type = ts) (o1 : g1.offset = 1) (cT : P.cellsOf T = 2) (c0 : P.cellsOf t6 = 1) (c1 : P.cellsOf ts = 1)
  (h6 : P.underlying t6 = some (.int .i64)) (hs : P.underlying ts = some (.slice te)) (he : P.underlying te = some (.struct #[f0, f1, f2, f3, f4])) (ce : P.cellsOf te = 5)
  (t0 : f0.type = ti) (t1 : f1.type = ti) (t2 : f2.type = ti) (t3 : f3.type = tb) (t4 : f4.type = ti) (oo0 : f0.offset = 0) (oo1 : f1.offset = 1) (oo2 : f2.offset = 2) (oo3 : f3.offset = 3) (oo4 : f4.offset = 4)
  (hi : P.underlying ti = some (.int .i64)) (hb : P.underlying tb = some .bool) (ci : P.cellsOf ti = 1) (cb : P.cellsOf tb = 1)
  (hval : Value.okWide P W .any base T v) (h : DataW.Trod enc P W 0 (fun _ => true) true T v d p) :
  ∃ q f n, (locP q f n).p (wGH W) v := by
 obtain ⟨cs, rfl, hsz⟩ := okWide_struct hT hval
 obtain ⟨fuel, hf⟩ := h
 have hf : DataW.trod enc P W 0 (fun _ => true) true fuel T cs.toList = some (d, p) := hf
 obtain ⟨y0, y1, n, hx, hl, k0, k1⟩ := trod_struct2 hT hf
 rw [h0, o0, c0] at k0
 rw [h1, o1, c1] at k1
 obtain ⟨u0, u1, hcs⟩ : ∃ u0 u1, cs.toList = [u0, u1] := by
  rw [cT] at hl
  match hc : cs.toList, hl with
  | [u0, u1], _ => exact ⟨u0, u1, rfl⟩
 rw [hcs] at k0 k1
 obtain ⟨pk, e0, _, wpk⟩ := DataW.trod_int h6 (show DataW.trod enc P W 0 (fun _ => true) true n t6 [u0] = some y0 from k0)
 simp at e0
 subst e0
 have hag : cs = #[.int .i64 pk, u1] := by rw [← Array.toList_inj]; exact hcs
 subst hag
 have key : ∃ f m, (slc 5 (rows (ccs f) m) m).p (wGH W) u1 := by
  rcases DataW.trod_slice hs (show DataW.trod enc P W 0 (fun _ => true) true n ts [u1] = some y1 from k1) with ⟨e1, _⟩ | ⟨a, len, cap, elems, rest, m, _, e1, _, hbb, hlc, hcm, hlen, hel, _, _⟩
  ·simp at e1
   subst e1
   exact ⟨fun _ => ⟨0, 0, 0, false, 0⟩, 0, none, 0, rfl, Nat.le_refl _, Nat.zero_le _, fun _ => rfl, rfl, fun hn => absurd rfl hn⟩
  ·simp at e1
   subst e1
   have each : ∀ i, i < len → ∃ c : Co, W.cells? 0 (a.add (i * 5)) 5 = some (cov c) := by
    intro i hi'
    have h2 := hel i hi'
    rw [ce, List.getElem?_eq_getElem (by omega)] at h2
    obtain ⟨cs', q1, q2⟩ := Option.bind_eq_some_iff.1 h2
    obtain ⟨x, rfl⟩ := open_co he ce t0 t1 t2 t3 t4 oo0 oo1 oo2 oo3 oo4 hi hb ci cb q2
    exact ⟨x, q1⟩
   have hch : ∃ f : Nat → Co, ∀ i, i < len → W.cells? 0 (a.add (i * 5)) 5 = some (cov (f i)) := by
    refine ⟨fun i => if hi : i < len then (each i hi).choose else ⟨0, 0, 0, false, 0⟩, fun i hi => ?_⟩
    dsimp only
    rw [dif_pos hi]
    exact (each i hi).choose_spec
   obtain ⟨f, hff⟩ := hch
   refine ⟨f, len, some a, cap, rfl, hlc, hcm, (fun h => by cases h), aZ3 (aZp f) len, fun hne => ?_⟩
   have hpos : 0 < len := by
    rcases Nat.eq_zero_or_pos len with h | h
    ·subst h; exact absurd rfl hne
    ·exact h
   have hcell : ∀ i r u, i < len → (cov (f i))[r]? = some u → W.cell? ((a.add (i * 5)).add r) = some u := by
    intro i r u hi hr
    have hr5 : r < 5 := (List.getElem?_eq_some_iff.1 hr).1
    have := (World.cells?_some (hff i hi)).2.2 r hr5
    rw [this, hr]
   obtain ⟨bb, off, spot⟩ := a
   have hspot : spot = none := by
    have h00 := hcell 0 0 _ hpos rfl
    have := World.cell?_spot h00
    simpa [Addr.add] using this
   subst hspot
   refine ⟨bb, off, covs f len, rfl, by rw [lZV]; exact cZA (lZG f len), gZq f len fun i r u hi hr => ?_⟩
   have := hcell i r u hi hr
   rwa [Addr.add_mid, Addr.add_mid] at this
 obtain ⟨f, m, hk⟩ := key
 exact ⟨pk, f, m, [.int .i64 pk, u1], rfl, rfl, rfl, hk, C1.c1 _ _ hk, trivial⟩
end
end Go.Proofs.YtdieokoenhncfaaGreatDoor
/- The statements Species, Cross, Mass on calls with arguments. -/
namespace Go.Proofs.YtdieokoenhncfaaGreatDoor
open Go.RowKit Limb Num
theorem hZO {P : Program} {En : Ev} {f : FuncId} {ps : List Pd} {vs : List Value} (h : Fn P En f ps (ex (.bool true))) (w : World) (he : En.e w) (ha : AllV (wGH w) ps vs) : Calls P f vs.toArray w fun e w' => e = .returned (.bool true) ∧ Below w.heap.size w w' := by
 refine (h (wGH w) w vs he (iZI w) ha).mono ?_
 rintro e w' ⟨v, h', rfl, _, _, _, hb, hv⟩
 have hv : v = .bool true := hv
 exact ⟨by rw [hv], hb⟩
theorem dZm (at' fl n : Int) (made : Bool) (w : World) (l : Value) (hl : ∃ q f n, (locP q f n).p (wGH w) l) (v : Value) (hv : ∃ pk x m, (Lit.int .u8 pk).wf = true ∧ (aggP [ex (.int .u8 pk), slc 5 (rows (bys x) m) m]).p (wGH w) v) (wa : (Lit.int .u8 at').wf = true) (wf : (Lit.int .u8 fl).wf = true) (_ : (Lit.int .i8 n).wf = true) (ht : TabD.e w) :
  Calls Tryz.prog 3 #[l, v, .int .u8 at', .int .u8 fl, .int .i8 n, .bool made] w fun e w' => e = .returned (.bool true) ∧ Below w.heap.size w w' := by
 obtain ⟨q, f, N, hl⟩ := hl
 obtain ⟨pk, x, m, wpk, hv⟩ := hv
 obtain ⟨p1, p2⟩ := bounds_u8 wpk
 obtain ⟨a1, a2⟩ := bounds_u8 wa
 obtain ⟨f1, f2⟩ := bounds_u8 wf
 exact hZO (lcross q f N pk x m at' fl n made (by omega) (by omega) (by omega) (by omega) (by omega)) w ht ⟨hl, hv, rfl, rfl, rfl, rfl, trivial⟩
theorem dZ0 (at' fl n : Int) (made : Bool) (w : World) (l : Value) (hl : ∃ q f n, (locP q f n).p (wGH w) l) (v : Value) (hv : ∃ pk x m, (Lit.int .u8 pk).wf = true ∧ (aggP [ex (.int .u8 pk), slc 5 (rows (bys x) m) m]).p (wGH w) v) (wa : (Lit.int .u8 at').wf = true) (wf : (Lit.int .u8 fl).wf = true) (_ : (Lit.int .i8 n).wf = true) (ht : TabD.e w) :
  Calls Tryz.prog 5 #[l, v, .int .u8 at', .int .u8 fl, .int .i8 n, .bool made] w fun e w' => e = .returned (.bool true) ∧ Below w.heap.size w w' := by
 obtain ⟨q, f, N, hl⟩ := hl
 obtain ⟨pk, x, m, wpk, hv⟩ := hv
 obtain ⟨p1, p2⟩ := bounds_u8 wpk
 obtain ⟨a1, a2⟩ := bounds_u8 wa
 obtain ⟨f1, f2⟩ := bounds_u8 wf
 exact hZO (lmass q f N pk x m at' fl n made (by omega) (by omega) (by omega) (by omega) (by omega)) w ht ⟨hl, hv, rfl, rfl, rfl, rfl, trivial⟩
end Go.Proofs.YtdieokoenhncfaaGreatDoor
/- From the laid table of species to its cells. -/
namespace Go.Proofs.YtdieokoenhncfaaGreatDoor
open Go.RowKit Go.ChangeShapes Go.WideShapes
def rowD {H : Type} (r : Bool × Bool × Int × Int × Int) : DataW H := .agg [.lit (.bool r.1), .lit (.bool r.2.1), .lit (.int .i64 r.2.2.1), .lit (.int .i64 r.2.2.2.1), .lit (.int .i64 r.2.2.2.2)]
section
variable {H : Type} {enc : TypeId × Value → H} {P : Program} {w : World} {base : Nat} {sp : Nat → Bool} {held : Bool} {fuel : Nat} {e tb ti : TypeId} {f0 f1 f2 f3 f4 : Field}
theorem gZr {cs : List Value} {r : Bool × Bool × Int × Int × Int} {p : List MemPlace} (he : P.underlying e = some (.struct #[f0, f1, f2, f3, f4]))
  (t0 : f0.type = tb) (t1 : f1.type = tb) (t2 : f2.type = ti) (t3 : f3.type = ti) (t4 : f4.type = ti) (o0 : f0.offset = 0) (o1 : f1.offset = 1) (o2 : f2.offset = 2) (o3 : f3.offset = 3) (o4 : f4.offset = 4)
  (hb : P.underlying tb = some .bool) (hi : P.underlying ti = some (.int .i64)) (cb : P.cellsOf tb = 1) (ci : P.cellsOf ti = 1) (ce : P.cellsOf e = 5)
  (h : DataW.trod enc P w base sp held fuel e cs = some (rowD r, p)) : cs = hZ6 r := by
 obtain ⟨xs, n, _, hx, hl, hlen, hf⟩ := DataW.trod_struct he h
 have g0 := hf 0 f0 rfl
 have g1 := hf 1 f1 rfl
 have g2 := hf 2 f2 rfl
 have g3 := hf 3 f3 rfl
 have g4 := hf 4 f4 rfl
 rw [t0, o0, cb] at g0
 rw [t1, o1, cb] at g1
 rw [t2, o2, ci] at g2
 rw [t3, o3, ci] at g3
 rw [t4, o4, ci] at g4
 obtain ⟨y0, y1, y2, y3, y4, rfl⟩ : ∃ y0 y1 y2 y3 y4, xs = [y0, y1, y2, y3, y4] := by
  match xs, hlen with
  | [y0, y1, y2, y3, y4], _ => exact ⟨y0, y1, y2, y3, y4, rfl⟩
 obtain ⟨u0, u1, u2, u3, u4, rfl⟩ : ∃ u0 u1 u2 u3 u4, cs = [u0, u1, u2, u3, u4] := by
  rw [ce] at hl
  match cs, hl with
  | [u0, u1, u2, u3, u4], _ => exact ⟨u0, u1, u2, u3, u4, rfl⟩
 obtain ⟨b0, e0, k0⟩ := DataW.trod_bool hb (show DataW.trod enc P w base sp held n tb [u0] = some y0 from g0)
 obtain ⟨b1, e1, k1⟩ := DataW.trod_bool hb (show DataW.trod enc P w base sp held n tb [u1] = some y1 from g1)
 obtain ⟨z2, e2, k2, _⟩ := DataW.trod_int hi (show DataW.trod enc P w base sp held n ti [u2] = some y2 from g2)
 obtain ⟨z3, e3, k3, _⟩ := DataW.trod_int hi (show DataW.trod enc P w base sp held n ti [u3] = some y3 from g3)
 obtain ⟨z4, e4, k4, _⟩ := DataW.trod_int hi (show DataW.trod enc P w base sp held n ti [u4] = some y4 from g4)
 subst k0 k1 k2 k3 k4
 obtain ⟨r0, r1, r2, r3, r4⟩ := r
 simp [rowD] at hx
 simp at e0 e1 e2 e3 e4
 obtain ⟨⟨h0, h1, h2, h3, h4⟩, _⟩ := hx
 subst e0 e1 e2 e3 e4
 subst h0 h1 h2 h3 h4
 rfl
theorem kZd {f : (Bool × Bool × Int × Int × Int) → List Value} (hf : ∀ r, (f r).length = 5) : ∀ (l : List (Bool × Bool × Int × Int × Int)) (cs : List Value), cs.length = l.length * 5 → (∀ i r, l[i]? = some r → (cs.drop (i * 5)).take 5 = f r) → cs = l.flatMap f
 | [], cs, h, _ => by simp at h; simp [h]
 | r :: l, cs, h, H => by
  have h0 := H 0 r rfl
  rw [Nat.zero_mul, List.drop_zero] at h0
  have ih := kZd hf l (cs.drop 5) (by rw [List.length_drop, h, List.length_cons]; omega) (fun i r' hi => by
   have := H (i + 1) r' (by simpa using hi)
   rw [List.drop_drop, ← this]
   congr 2
   omega)
  rw [List.flatMap_cons, ← h0, ← ih, List.take_append_drop]
theorem dZt {t : TypeId} {n : Nat} {cs : List Value} {rs : List (Bool × Bool × Int × Int × Int)} {p : List MemPlace} (ht : P.underlying t = some (.array n e)) (he : P.underlying e = some (.struct #[f0, f1, f2, f3, f4]))
  (t0 : f0.type = tb) (t1 : f1.type = tb) (t2 : f2.type = ti) (t3 : f3.type = ti) (t4 : f4.type = ti) (o0 : f0.offset = 0) (o1 : f1.offset = 1) (o2 : f2.offset = 2) (o3 : f3.offset = 3) (o4 : f4.offset = 4)
  (hb : P.underlying tb = some .bool) (hi : P.underlying ti = some (.int .i64)) (cb : P.cellsOf tb = 1) (ci : P.cellsOf ti = 1) (ce : P.cellsOf e = 5) (ct : P.cellsOf t = n * 5)
  (h : DataW.trod enc P w base sp held fuel t cs = some (.agg (rs.map rowD), p)) : cs = rs.flatMap hZ6 := by
 obtain ⟨xs, m, _, hx, hl, hlen, hf⟩ := DataW.trod_array ht h
 have hxs : rs.map rowD = xs.map (·.1) := by
  have := congrArg Prod.fst hx
  simpa using this
 have hrl : rs.length = n := by
  have := congrArg List.length hxs
  simp at this
  omega
 refine kZd (fun _ => rfl) rs cs (by rw [hl, ct, hrl]) fun i r hr => ?_
 have hi' : i < n := by
  rw [← hrl]
  exact (List.getElem?_eq_some_iff.1 hr).1
 have g := hf i hi'
 rw [ce] at g
 have hxi : (xs[i]?).map (·.1) = some (rowD r) := by rw [← List.getElem?_map, ← hxs, List.getElem?_map, hr]; rfl
 obtain ⟨y, hy, hy1⟩ := Option.map_eq_some_iff.1 hxi
 rw [hy] at g
 exact gZr (r := r) (p := y.2) he t0 t1 t2 t3 t4 o0 o1 o2 o3 o4 hb hi cb ci ce (by rw [g, ← hy1])
end
end Go.Proofs.YtdieokoenhncfaaGreatDoor

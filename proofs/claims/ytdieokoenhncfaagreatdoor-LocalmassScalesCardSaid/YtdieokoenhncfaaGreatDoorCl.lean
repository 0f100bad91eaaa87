/- A symbol that is handed to a law: its struct, opened. For any program. -/
import Derived.Test.YtdieokoenhncfaaGreatDoorCs
import Derived.Test.YtdieokoenhncfaaGreatDoorMe
import Derived.Test.YtdieokoenhncfaaGreatDoorMy
set_option maxRecDepth 3000
namespace Go.Proofs.YtdieokoenhncfaaGreatDoor
open Go.RowKit Limb Go.ChangeShapes Go.WideShapes
def cov (c : Co) : List Value := [.int .i64 c.e, .int .i64 c.d, .int .i64 c.s, .bool c.o, .int .i64 c.y]
def covs (f : Nat → Co) (n : Nat) : List Value := (List.range n).flatMap fun i => cov (f i)
theorem ccs_vals (f : Nat → Co) (n : Nat) : rows (ccs f) n = (covs f n).map ex := by
 unfold rows covs
 rw [List.map_flatMap]
 rfl
theorem covs_succ (f : Nat → Co) (n : Nat) : covs f (n + 1) = covs f n ++ cov (f n) := by unfold covs; rw [List.range_succ, List.flatMap_append]; simp
theorem covs_len (f : Nat → Co) : ∀ n, (covs f n).length = n * 5
 | 0 => rfl
 | n + 1 => by rw [covs_succ, List.length_append, covs_len f n, Nat.succ_mul]; rfl
theorem covs_one (f : Nat → Co) (n : Nat) : ∀ v ∈ covs f n, v.oneCell' = true := by
 intro v hv
 obtain ⟨i, _, hi⟩ := List.mem_flatMap.1 hv
 simp only [cov, List.mem_cons, List.not_mem_nil, or_false] at hi
 rcases hi with rfl | rfl | rfl | rfl | rfl <;> rfl
theorem covs_cell {W : World} {b off : Nat} (f : Nat → Co) : ∀ (n : Nat), (∀ i r u, i < n → (cov (f i))[r]? = some u → W.cell? ⟨b, off + i * 5 + r, none⟩ = some u) → ∀ j u, (covs f n)[j]? = some u → W.cell? ⟨b, off + j, none⟩ = some u
 | 0, _, j, u, h => by simp [covs] at h
 | n + 1, H, j, u, h => by
  rw [covs_succ] at h
  have hl := covs_len f n
  rcases Nat.lt_or_ge j (n * 5) with hj | hj
  ·rw [List.getElem?_append_left (by omega)] at h
   exact covs_cell f n (fun i r u hi hr => H i r u (by omega) hr) j u h
  ·rw [List.getElem?_append_right (by omega), hl] at h
   obtain ⟨r, rfl⟩ : ∃ r, j = n * 5 + r := ⟨j - n * 5, by omega⟩
   rw [show n * 5 + r - n * 5 = r by omega] at h
   have hc := H n r u (by omega) h
   rw [← Nat.add_assoc, hc]
section
variable {H : Type} {enc : TypeId × Value → H} {P : Program} {W : World} {base : Nat} {T ti tb t6 ts te : TypeId} {f0 f1 f2 f3 f4 : Field}
theorem trod_struct5 {t : TypeId} {sp : Nat → Bool} {held : Bool} {fuel : Nat} {cs : List Value} {x : DataW H × List MemPlace} (ht : P.underlying t = some (.struct #[f0, f1, f2, f3, f4])) (h : DataW.trod enc P W base sp held fuel t cs = some x) :
  ∃ y0 y1 y2 y3 y4 n, cs.length = P.cellsOf t ∧ DataW.trod enc P W base sp held n f0.type ((cs.drop f0.offset).take (P.cellsOf f0.type)) = some y0 ∧ DataW.trod enc P W base sp held n f1.type ((cs.drop f1.offset).take (P.cellsOf f1.type)) = some y1 ∧
   DataW.trod enc P W base sp held n f2.type ((cs.drop f2.offset).take (P.cellsOf f2.type)) = some y2 ∧ DataW.trod enc P W base sp held n f3.type ((cs.drop f3.offset).take (P.cellsOf f3.type)) = some y3 ∧ DataW.trod enc P W base sp held n f4.type ((cs.drop f4.offset).take (P.cellsOf f4.type)) = some y4 := by
 obtain ⟨xs, n, _, rfl, hl, hlen, hf⟩ := DataW.trod_struct ht h
 match xs, hlen with
 | [y0, y1, y2, y3, y4], _ => exact ⟨y0, y1, y2, y3, y4, n, hl, by simpa using hf 0 f0 rfl, by simpa using hf 1 f1 rfl, by simpa using hf 2 f2 rfl, by simpa using hf 3 f3 rfl, by simpa using hf 4 f4 rfl⟩
theorem open_co {fuel : Nat} {sp : Nat → Bool} {held : Bool} {cs : List Value} {y : DataW H × List MemPlace} (he : P.underlying te = some (.struct #[f0, f1, f2, f3, f4])) (ce : P.cellsOf te = 5)
  (t0 : f0.type = ti) (t1 : f1.type = ti) (t2 : f2.type = ti) (t3 : f3.type = tb) (t4 : f4.type = ti) (o0 : f0.offset = 0) (o1 : f1.offset = 1) (o2 : f2.offset = 2) (o3 : f3.offset = 3) (o4 : f4.offset = 4)
  (hi : P.underlying ti = some (.int .i64)) (hb : P.underlying tb = some .bool) (ci : P.cellsOf ti = 1) (cb : P.cellsOf tb = 1)
  (h : DataW.trod enc P W base sp held fuel te cs = some y) : ∃ c : Co, cs = cov c := by
 obtain ⟨y0, y1, y2, y3, y4, n, hl, g0, g1, g2, g3, g4⟩ := trod_struct5 he h
 rw [ce] at hl
 obtain ⟨u0, u1, u2, u3, u4, rfl⟩ : ∃ u0 u1 u2 u3 u4, cs = [u0, u1, u2, u3, u4] := by
  match cs, hl with
  | [u0, u1, u2, u3, u4], _ => exact ⟨u0, u1, u2, u3, u4, rfl⟩
 rw [t0, o0, ci] at g0
 rw [t1, o1, ci] at g1
 rw [t2, o2, ci] at g2
 rw [t3, o3, cb] at g3
 rw [t4, o4, ci] at g4
 obtain ⟨z0, e0, _, _⟩ := DataW.trod_int hi (show DataW.trod enc P W base sp held n ti [u0] = some y0 from g0)
 obtain ⟨z1, e1, _, _⟩ := DataW.trod_int hi (show DataW.trod enc P W base sp held n ti [u1] = some y1 from g1)
 obtain ⟨z2, e2, _, _⟩ := DataW.trod_int hi (show DataW.trod enc P W base sp held n ti [u2] = some y2 from g2)
 obtain ⟨z3, e3, _⟩ := DataW.trod_bool hb (show DataW.trod enc P W base sp held n tb [u3] = some y3 from g3)
 obtain ⟨z4, e4, _, _⟩ := DataW.trod_int hi (show DataW.trod enc P W base sp held n ti [u4] = some y4 from g4)
 simp at e0 e1 e2 e3 e4
 subst e0 e1 e2 e3 e4
 exact ⟨⟨z0, z1, z2, z3, z4⟩, rfl⟩
theorem open_Loc {g0 g1 : Field} {v : Value} {d : DataW H} {p : List MemPlace} (hT : P.underlying T = some (.struct #[g0, g1])) (h0 : g0.type = t6) (o0 : g0.offset = 0) (h1 : g1.type = ts) (o1 : g1.offset = 1) (cT : P.cellsOf T = 2) (c0 : P.cellsOf t6 = 1) (c1 : P.cellsOf ts = 1)
  (h6 : P.underlying t6 = some (.int .i64)) (hs : P.underlying ts = some (.slice te)) (he : P.underlying te = some (.struct #[f0, f1, f2, f3, f4])) (ce : P.cellsOf te = 5)
  (t0 : f0.type = ti) (t1 : f1.type = ti) (t2 : f2.type = ti) (t3 : f3.type = tb) (t4 : f4.type = ti) (oo0 : f0.offset = 0) (oo1 : f1.offset = 1) (oo2 : f2.offset = 2) (oo3 : f3.offset = 3) (oo4 : f4.offset = 4)
  (hi : P.underlying ti = some (.int .i64)) (hb : P.underlying tb = some .bool) (ci : P.cellsOf ti = 1) (cb : P.cellsOf tb = 1)
  (hval : Value.okWide P W .any base T v) (h : DataW.Trod enc P W 0 (fun _ => true) true T v d p) :
  ∃ q f n, (locP q f n).p (wGH W) v := by
 obtain ⟨cs, rfl, hsz⟩ := okWide_struct hT hval
 obtain ⟨fuel, hf⟩ := h
 have hf : DataW.trod enc P W 0 (fun _ => true) true fuel T cs.toList = some (d, p) := hf
 obtain ⟨y0, y1, n, hx, hl, k0, k1⟩ := trod_struct2 hT hf
 rw [h0, o0, c0] at k0
 rw [h1, o1, c1] at k1
 obtain ⟨u0, u1, hcs⟩ : ∃ u0 u1, cs.toList = [u0, u1] := by
  rw [cT] at hl
  match hc : cs.toList, hl with
  | [u0, u1], _ => exact ⟨u0, u1, rfl⟩
 rw [hcs] at k0 k1
 obtain ⟨pk, e0, _, wpk⟩ := DataW.trod_int h6 (show DataW.trod enc P W 0 (fun _ => true) true n t6 [u0] = some y0 from k0)
 simp at e0
 subst e0
 have hag : cs = #[.int .i64 pk, u1] := by rw [← Array.toList_inj]; exact hcs
 subst hag
 have key : ∃ f m, (slc 5 (rows (ccs f) m) m).p (wGH W) u1 := by
  rcases DataW.trod_slice hs (show DataW.trod enc P W 0 (fun _ => true) true n ts [u1] = some y1 from k1) with ⟨e1, _⟩ | ⟨a, len, cap, elems, rest, m, _, e1, _, hbb, hlc, hcm, hlen, hel, _, _⟩
  ·simp at e1
   subst e1
   exact ⟨fun _ => ⟨0, 0, 0, false, 0⟩, 0, none, 0, rfl, Nat.le_refl _, Nat.zero_le _, fun _ => rfl, rfl, fun hn => absurd rfl hn⟩
  ·simp at e1
   subst e1
   have each : ∀ i, i < len → ∃ c : Co, W.cells? 0 (a.add (i * 5)) 5 = some (cov c) := by
    intro i hi'
    have h2 := hel i hi'
    rw [ce, List.getElem?_eq_getElem (by omega)] at h2
    obtain ⟨cs', q1, q2⟩ := Option.bind_eq_some_iff.1 h2
    obtain ⟨x, rfl⟩ := open_co he ce t0 t1 t2 t3 t4 oo0 oo1 oo2 oo3 oo4 hi hb ci cb q2
    exact ⟨x, q1⟩
   have hch : ∃ f : Nat → Co, ∀ i, i < len → W.cells? 0 (a.add (i * 5)) 5 = some (cov (f i)) := by
    refine ⟨fun i => if hi : i < len then (each i hi).choose else ⟨0, 0, 0, false, 0⟩, fun i hi => ?_⟩
    dsimp only
    rw [dif_pos hi]
    exact (each i hi).choose_spec
   obtain ⟨f, hff⟩ := hch
   refine ⟨f, len, some a, cap, rfl, hlc, hcm, (fun h => by cases h), rows_len (ccs_len f) len, fun hne => ?_⟩
   have hpos : 0 < len := by
    rcases Nat.eq_zero_or_pos len with h | h
    ·subst h; exact absurd rfl hne
    ·exact h
   have hcell : ∀ i r u, i < len → (cov (f i))[r]? = some u → W.cell? ((a.add (i * 5)).add r) = some u := by
    intro i r u hi hr
    have hr5 : r < 5 := (List.getElem?_eq_some_iff.1 hr).1
    have := (World.cells?_some (hff i hi)).2.2 r hr5
    rw [this, hr]
   obtain ⟨bb, off, spot⟩ := a
   have hspot : spot = none := by
    have h00 := hcell 0 0 _ hpos rfl
    have := World.cell?_spot h00
    simpa [Addr.add] using this
   subst hspot
   refine ⟨bb, off, covs f len, rfl, by rw [ccs_vals]; exact all2_ex (covs_one f len), covs_cell f len fun i r u hi hr => ?_⟩
   have := hcell i r u hi hr
   rwa [Addr.add_mid, Addr.add_mid] at this
 obtain ⟨f, m, hk⟩ := key
 exact ⟨pk, f, m, [.int .i64 pk, u1], rfl, rfl, rfl, hk, C1.c1 _ _ hk, trivial⟩
end
end Go.Proofs.YtdieokoenhncfaaGreatDoor

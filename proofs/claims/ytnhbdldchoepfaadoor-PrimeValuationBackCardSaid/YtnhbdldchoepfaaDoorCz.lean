/- An integer that is handed to a law: its struct, opened and shut. For any program. -/
import Derived.Test.YtnhbdldchoepfaaDoorIz
import Derived.OpenShut
import Derived.ChangeSlices
import Derived.ChangeSame
import Derived.WalkKit
import Derived.ProofKit
set_option maxRecDepth 3000
namespace Go.Proofs.YtnhbdldchoepfaaDoor
open Go.RowKit Limb Go.ChangeShapes Go.WideShapes Go.ChangeAt
/-- All cells of a world. -/
def wGH (W : World) : GH := fun b o => W.cell? ⟨b, o, none⟩
theorem wGH_holds (W : World) : Holds (wGH W) W := fun _ _ _ h => h
theorem add_block (a : Addr) (i : Nat) : (a.add i).block = a.block := by unfold Addr.add; (first | rfl | (split <;> rfl))
theorem shut_Z {H : Type} {enc : TypeId × Value → H} {P : Program} {W' : World} {sp : Nat → Bool} {T tb ts : TypeId} {f0 f1 : Field} {b : Bool} {u : Value} {y : DataW H × List MemPlace} {m : Nat}
    (hT : P.underlying T = some (.struct #[f0, f1])) (h0 : f0.type = tb) (o0 : f0.offset = 0) (h1 : f1.type = ts) (o1 : f1.offset = 1) (cT : P.cellsOf T = 2) (c0 : P.cellsOf tb = 1) (c1 : P.cellsOf ts = 1)
    (hb : P.underlying tb = some .bool) (g : DataW.trod enc P W' 0 sp true (m + 1) ts [u] = some y) : DataW.trod enc P W' 0 sp true (m + 2) T [.bool b, u] = some (.agg [.lit (.bool b), y.1], y.2) := by
  have g0 : DataW.trod enc P W' 0 sp true (m + 1) tb [.bool b] = some (.lit (.bool b), []) := by simp [DataW.trod, hb]
  have := trod_struct_mk (enc := enc) (w := W') (base := 0) (spare := sp) (held := true) (n := m + 1) (cs := [.bool b, u]) (xs := [(.lit (.bool b), []), y]) hT (by rw [cT]; rfl) (by
    simp [h0, o0, h1, o1, c0, c1, g0, g])
  simpa using this
theorem open_Z {H : Type} {enc : TypeId × Value → H} {P : Program} {W : World} {base : Nat} {T tb ts te : TypeId} {f0 f1 : Field} {v : Value} {d : DataW H} {p : List MemPlace}
    (hT : P.underlying T = some (.struct #[f0, f1])) (h0 : f0.type = tb) (o0 : f0.offset = 0) (h1 : f1.type = ts) (o1 : f1.offset = 1) (cT : P.cellsOf T = 2) (c0 : P.cellsOf tb = 1) (c1 : P.cellsOf ts = 1)
    (hb : P.underlying tb = some .bool) (hs : P.underlying ts = some (.slice te)) (he : P.underlying te = some (.int .u32)) (ce : P.cellsOf te = 1)
    (hval : Value.okWide P W .any base T v) (h : DataW.Trod enc P W 0 (fun _ => true) true T v d p) :
    ∃ s l, (zR s l).p (wGH W) v ∧ Lm l ∧ ∀ W', Below W.heap.size W W' → ∃ p', DataW.Trod enc P W' 0 (fun b => decide (b < W.heap.size)) true T v d p' := by
  obtain ⟨cs, rfl, hsz⟩ := okWide_struct hT hval
  obtain ⟨fuel, hf⟩ := h
  have hf : DataW.trod enc P W 0 (fun _ => true) true fuel T cs.toList = some (d, p) := hf
  obtain ⟨xs, n, _, hx, hl, hlen, hfi⟩ := DataW.trod_struct hT hf
  have g0 := hfi 0 f0 rfl
  have g1 := hfi 1 f1 rfl
  rw [h0, o0, c0] at g0
  rw [h1, o1, c1] at g1
  obtain ⟨y0, y1, rfl⟩ : ∃ y0 y1, xs = [y0, y1] := by
    match xs, hlen with
    | [y0, y1], _ => exact ⟨y0, y1, rfl⟩
  obtain ⟨u0, u1, hcs⟩ : ∃ u0 u1, cs.toList = [u0, u1] := by
    rw [cT] at hl
    match hc : cs.toList, hl with
    | [u0, u1], _ => exact ⟨u0, u1, rfl⟩
  rw [hcs] at g0 g1
  obtain ⟨b, e0, ey0⟩ := DataW.trod_bool hb (show DataW.trod enc P W 0 (fun _ => true) true n tb [u0] = some y0 from g0)
  have e0 : u0 = .bool b := by simpa using e0
  subst e0
  have hag : cs = #[.bool b, u1] := by rw [← Array.toList_inj]; exact hcs
  injection hx with hd hp
  rcases open_ints hs he ce (show DataW.trod enc P W 0 (fun _ => true) true n ts [u1] = some y1 from g1) with ⟨e1, ey1⟩ | ⟨a, len, cap, zs, e1, hba, hlc, hcm, hzl, ey1, hcell, hwf⟩
  · have e1 : u1 = .slice none 0 0 := by simpa using e1
    subst e1
    subst hag
    refine ⟨b, [], ⟨_, rfl, rfl, rfl, mag_nil _ _ rfl, rfl, trivial⟩, Lm.nil, fun W' _ => ⟨[], 2, ?_⟩⟩
    have := shut_Z (enc := enc) (W' := W') (sp := fun b => decide (b < W.heap.size)) (b := b) (u := .slice none 0 0) (y := (.nil, [])) (m := 0) hT h0 o0 h1 o1 cT c0 c1 hb (by simp [DataW.trod, hs])
    rw [hd, ey0, ey1]
    exact this
  · have e1 : u1 = .slice (some a) len cap := by simpa using e1
    subst e1
    subst hag
    have hzl : zs.length = cap := hzl
    have hlm : Lm ((zs.take len).map Int.toNat) := by
      intro x hx
      obtain ⟨z, hz, rfl⟩ := List.mem_map.1 hx
      have := bounds_u32 (hwf z (List.mem_of_mem_take hz))
      rw [B_def]; omega
    have hll : ((zs.take len).map Int.toNat).length = len := by simp; omega
    refine ⟨b, (zs.take len).map Int.toNat, ⟨_, rfl, rfl, rfl, ⟨⟨some a, cap, by rw [hll], by rw [hll]; exact hlc, ⟨hcm, fun h => by cases h⟩, fun hne => ?_⟩, hlm⟩, rfl, trivial⟩, hlm, fun W' hB => ?_⟩
    · have hpos : 0 < zs.length := by
        rcases Nat.eq_zero_or_pos zs.length with h | h
        · exfalso; apply hne; rw [List.length_eq_zero_iff.1 h]; simp
        · exact h
      obtain ⟨bb, off, rfl, hc⟩ := ints_at hcell hpos
      refine ⟨bb, off, rfl, fun j x hx => ?_⟩
      rw [List.getElem?_map, Option.map_eq_some_iff] at hx
      obtain ⟨z, hz, rfl⟩ := hx
      rw [List.getElem?_take] at hz
      split at hz
      · have hjl := (List.getElem?_eq_some_iff.1 hz).1
        have := hc j hjl
        rw [List.getD_eq_getElem?_getD, hz] at this
        have hb := bounds_u32 (hwf z (List.mem_of_getElem? hz))
        show W.cell? _ = _
        rw [this]
        simp; omega
      · cases hz
    · have hsp : zs.length = (if (fun b => decide (b < W.heap.size)) a.block then cap else len) := by
        by_cases hpos : 0 < zs.length
        · have hlt : a.block < W.heap.size := by
            have := hcell 0 hpos
            unfold World.cell? at this
            rw [add_block] at this
            split at this
            · rename_i hh; exact block_lt hh
            · cases this
          simp [hlt, hzl]
        · split <;> omega
      have g2 := shut_ints (enc := enc) (P := P) (w := W') (base := 0) (spare := fun b => decide (b < W.heap.size)) (held := true) (a := a) (len := len) (cap := cap) (zs := zs) 0 hs he ce hba hlc hcm hsp (fun i hi => by
        have h := hcell i hi
        have hlt : a.block < W.heap.size := by
          unfold World.cell? at h
          rw [add_block] at h
          split at h
          · rename_i hh; exact block_lt hh
          · cases h
        rw [← h]
        unfold World.cell?
        rw [add_block, hB.block _ hlt]) hwf
      have := shut_Z (enc := enc) (W' := W') (sp := fun b => decide (b < W.heap.size)) (b := b) hT h0 o0 h1 o1 cT c0 c1 hb g2
      refine ⟨MemPlace.row a zs.length, 3, ?_⟩
      rw [hd, ey0, ey1]
      exact this
end Go.Proofs.YtnhbdldchoepfaaDoor

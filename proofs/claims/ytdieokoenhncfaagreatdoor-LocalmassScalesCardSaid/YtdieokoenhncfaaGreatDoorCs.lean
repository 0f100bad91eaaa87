/- A scene's symbol that is handed to a law: its struct, opened. For any program. -/
import Derived.Test.YtdieokoenhncfaaGreatDoorTg
import Derived.OpenShut
import Derived.ChangeSlices
import Derived.ChangeSame
import Derived.WalkKit
import Derived.ProofKit
set_option maxRecDepth 3000
namespace Go.Proofs.YtdieokoenhncfaaGreatDoor
open Go.RowKit Limb Go.ChangeShapes Go.WideShapes
def wGH (W : World) : GH := fun b o => W.cell? ⟨b, o, none⟩
theorem wGH_holds (W : World) : Holds (wGH W) W := fun _ _ _ h => h
def byv (x : By) : List Value := [.int .u8 (x.b 0), .int .u8 (x.b 1), .int .u8 (x.b 2), .int .u8 (x.b 3), .int .u8 (x.b 4)]
def byvs (x : Nat → By) (n : Nat) : List Value := (List.range n).flatMap fun i => byv (x i)
theorem bys_vals (x : Nat → By) (n : Nat) : rows (bys x) n = (byvs x n).map ex := by
 unfold rows byvs
 rw [List.map_flatMap]
 rfl
theorem byvs_succ (x : Nat → By) (n : Nat) : byvs x (n + 1) = byvs x n ++ byv (x n) := by unfold byvs; rw [List.range_succ, List.flatMap_append]; simp
theorem byvs_len (x : Nat → By) : ∀ n, (byvs x n).length = n * 5
 | 0 => rfl
 | n + 1 => by rw [byvs_succ, List.length_append, byvs_len x n, Nat.succ_mul]; rfl
theorem byvs_one (x : Nat → By) (n : Nat) : ∀ v ∈ byvs x n, v.oneCell' = true := by
 intro v hv
 obtain ⟨i, _, hi⟩ := List.mem_flatMap.1 hv
 simp only [byv, List.mem_cons, List.not_mem_nil, or_false] at hi
 rcases hi with rfl | rfl | rfl | rfl | rfl <;> rfl
theorem byvs_cell {W : World} {b off : Nat} (x : Nat → By) : ∀ (n : Nat), (∀ i r, i < n → r < 5 → W.cell? ⟨b, off + i * 5 + r, none⟩ = some (.int .u8 ((x i).b r))) → ∀ j u, (byvs x n)[j]? = some u → W.cell? ⟨b, off + j, none⟩ = some u
 | 0, _, j, u, h => by simp [byvs] at h
 | n + 1, H, j, u, h => by
  rw [byvs_succ] at h
  have hl := byvs_len x n
  rcases Nat.lt_or_ge j (n * 5) with hj | hj
  ·rw [List.getElem?_append_left (by omega)] at h
   exact byvs_cell x n (fun i r hi hr => H i r (by omega) hr) j u h
  ·rw [List.getElem?_append_right (by omega), hl] at h
   obtain ⟨r, rfl⟩ : ∃ r, j = n * 5 + r := ⟨j - n * 5, by omega⟩
   rw [show n * 5 + r - n * 5 = r by omega] at h
   have hr : r < 5 := (List.getElem?_eq_some_iff.1 h).1
   have hc := H n r (by omega) hr
   rw [← Nat.add_assoc, hc, ← h]
   match r, hr with
   | 0, _ => rfl
   | 1, _ => rfl
   | 2, _ => rfl
   | 3, _ => rfl
   | 4, _ => rfl
section
variable {H : Type} {enc : TypeId × Value → H} {P : Program} {W : World} {base : Nat} {T t8 ts te : TypeId} {f0 f1 : Field}
theorem open_part {fuel : Nat} {sp : Nat → Bool} {held : Bool} {cs : List Value} {y : DataW H × List MemPlace} (h8 : P.underlying t8 = some (.int .u8)) (c0 : P.cellsOf t8 = 1) (he : P.underlying te = some (.array 5 t8)) (ce : P.cellsOf te = 5)
  (h : DataW.trod enc P W base sp held fuel te cs = some y) : ∃ x : By, cs = byv x := by
 obtain ⟨xs, m, _, hx, hl, hlen, hf⟩ := DataW.trod_array he h
 rw [ce] at hl
 obtain ⟨u0, u1, u2, u3, u4, rfl⟩ : ∃ u0 u1 u2 u3 u4, cs = [u0, u1, u2, u3, u4] := by
  match cs, hl with
  | [u0, u1, u2, u3, u4], _ => exact ⟨u0, u1, u2, u3, u4, rfl⟩
 obtain ⟨y0, y1, y2, y3, y4, rfl⟩ : ∃ y0 y1 y2 y3 y4, xs = [y0, y1, y2, y3, y4] := by
  match xs, hlen with
  | [y0, y1, y2, y3, y4], _ => exact ⟨y0, y1, y2, y3, y4, rfl⟩
 have g0 := hf 0 (by omega)
 have g1 := hf 1 (by omega)
 have g2 := hf 2 (by omega)
 have g3 := hf 3 (by omega)
 have g4 := hf 4 (by omega)
 rw [c0] at g0 g1 g2 g3 g4
 obtain ⟨z0, e0, _, w0⟩ := DataW.trod_int h8 (show DataW.trod enc P W base sp held m t8 [u0] = some y0 from g0)
 obtain ⟨z1, e1, _, w1⟩ := DataW.trod_int h8 (show DataW.trod enc P W base sp held m t8 [u1] = some y1 from g1)
 obtain ⟨z2, e2, _, w2⟩ := DataW.trod_int h8 (show DataW.trod enc P W base sp held m t8 [u2] = some y2 from g2)
 obtain ⟨z3, e3, _, w3⟩ := DataW.trod_int h8 (show DataW.trod enc P W base sp held m t8 [u3] = some y3 from g3)
 obtain ⟨z4, e4, _, w4⟩ := DataW.trod_int h8 (show DataW.trod enc P W base sp held m t8 [u4] = some y4 from g4)
 simp at e0 e1 e2 e3 e4
 subst e0 e1 e2 e3 e4
 have b0 := bounds_u8 w0
 have b1 := bounds_u8 w1
 have b2 := bounds_u8 w2
 have b3 := bounds_u8 w3
 have b4 := bounds_u8 w4
 refine ⟨⟨fun j => match j with | 0 => z0 | 1 => z1 | 2 => z2 | 3 => z3 | _ => z4, fun j => ?_, fun j => ?_⟩, rfl⟩
 ·split <;> omega
 ·split <;> omega
theorem open_Sym {v : Value} {d : DataW H} {p : List MemPlace} (hT : P.underlying T = some (.struct #[f0, f1])) (h0 : f0.type = t8) (o0 : f0.offset = 0) (h1 : f1.type = ts) (o1 : f1.offset = 1) (cT : P.cellsOf T = 2) (c0 : P.cellsOf t8 = 1) (c1 : P.cellsOf ts = 1)
  (h8 : P.underlying t8 = some (.int .u8)) (hs : P.underlying ts = some (.slice te)) (he : P.underlying te = some (.array 5 t8)) (ce : P.cellsOf te = 5)
  (hval : Value.okWide P W .any base T v) (h : DataW.Trod enc P W 0 (fun _ => true) true T v d p) :
  ∃ pk x m, (Lit.int .u8 pk).wf = true ∧ (aggP [ex (.int .u8 pk), slc 5 (rows (bys x) m) m]).p (wGH W) v := by
 obtain ⟨cs, rfl, hsz⟩ := okWide_struct hT hval
 obtain ⟨fuel, hf⟩ := h
 have hf : DataW.trod enc P W 0 (fun _ => true) true fuel T cs.toList = some (d, p) := hf
 obtain ⟨y0, y1, n, hx, hl, g0, g1⟩ := trod_struct2 hT hf
 rw [h0, o0, c0] at g0
 rw [h1, o1, c1] at g1
 obtain ⟨u0, u1, hcs⟩ : ∃ u0 u1, cs.toList = [u0, u1] := by
  rw [cT] at hl
  match hc : cs.toList, hl with
  | [u0, u1], _ => exact ⟨u0, u1, rfl⟩
 rw [hcs] at g0 g1
 obtain ⟨pk, e0, _, wpk⟩ := DataW.trod_int h8 (show DataW.trod enc P W 0 (fun _ => true) true n t8 [u0] = some y0 from g0)
 simp at e0
 subst e0
 have hag : cs = #[.int .u8 pk, u1] := by rw [← Array.toList_inj]; exact hcs
 subst hag
 have key : ∃ x m, (slc 5 (rows (bys x) m) m).p (wGH W) u1 := by
  rcases DataW.trod_slice hs (show DataW.trod enc P W 0 (fun _ => true) true n ts [u1] = some y1 from g1) with ⟨e1, _⟩ | ⟨a, len, cap, elems, rest, m, _, e1, _, hb, hlc, hcm, hlen, hel, _, _⟩
  ·simp at e1
   subst e1
   exact ⟨fun _ => ⟨fun _ => 0, fun _ => by omega, fun _ => by omega⟩, 0, none, 0, rfl, Nat.le_refl _, Nat.zero_le _, fun _ => rfl, rfl, fun hn => absurd rfl hn⟩
  ·simp at e1
   subst e1
   have each : ∀ i, i < len → ∃ x : By, W.cells? 0 (a.add (i * 5)) 5 = some (byv x) := by
    intro i hi
    have h2 := hel i hi
    rw [ce, List.getElem?_eq_getElem (by omega)] at h2
    obtain ⟨cs', q1, q2⟩ := Option.bind_eq_some_iff.1 h2
    obtain ⟨x, rfl⟩ := open_part h8 c0 he ce q2
    exact ⟨x, q1⟩
   have hch : ∃ x : Nat → By, ∀ i, i < len → W.cells? 0 (a.add (i * 5)) 5 = some (byv (x i)) := by
    refine ⟨fun i => if hi : i < len then (each i hi).choose else ⟨fun _ => 0, fun _ => by omega, fun _ => by omega⟩, fun i hi => ?_⟩
    dsimp only
    rw [dif_pos hi]
    exact (each i hi).choose_spec
   obtain ⟨x, hxx⟩ := hch
   refine ⟨x, len, some a, cap, rfl, hlc, hcm, (fun h => by cases h), rows_len (bys_len x) len, fun hne => ?_⟩
   have hpos : 0 < len := by
    rcases Nat.eq_zero_or_pos len with h | h
    ·subst h; exact absurd rfl hne
    ·exact h
   have hcell : ∀ i r, i < len → r < 5 → W.cell? ((a.add (i * 5)).add r) = some (.int .u8 ((x i).b r)) := by
    intro i r hi hr
    have := (World.cells?_some (hxx i hi)).2.2 r hr
    rw [this]
    match r, hr with
    | 0, _ => rfl
    | 1, _ => rfl
    | 2, _ => rfl
    | 3, _ => rfl
    | 4, _ => rfl
   obtain ⟨bb, off, spot⟩ := a
   have hspot : spot = none := by
    have h00 := hcell 0 0 hpos (by omega)
    have := World.cell?_spot h00
    simpa [Addr.add] using this
   subst hspot
   refine ⟨bb, off, byvs x len, rfl, by rw [bys_vals]; exact all2_ex (byvs_one x len), byvs_cell x len fun i r hi hr => ?_⟩
   have := hcell i r hi hr
   rwa [Addr.add_mid, Addr.add_mid] at this
 obtain ⟨x, m, hk⟩ := key
 exact ⟨pk, x, m, wpk, [.int .u8 pk, u1], rfl, rfl, rfl, hk, C1.c1 _ _ hk, trivial⟩
end
end Go.Proofs.YtdieokoenhncfaaGreatDoor

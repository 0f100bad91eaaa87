/- Splittings, blocks, decompositions: their types. -/
import Derived.Test.YtfmjdlogjmofbaaGreatDoorKn
import Derived.Test.YtfmjdlogjmofbaaGreatDoorMem
import Derived.Test.YtfmjdlogjmofbaaGreatDoorW
set_option maxRecDepth 3000
namespace Go.Proofs.YtfmjdlogjmofbaaGreatDoor
section
open Go.RowKit Limb
theorem fZJ : cZw Tryz.prog 137 [.int .i64 0, .int .i64 0, .int .i64 0, .slice none 0 0, .slice none 0 0] := ⟨by kernel_rfl, by simp [Value.oneCell']⟩
instance crow_split : CRow Tryz.prog 137 5 := ⟨⟨_, Tryz.underlying137, rfl, by kernel_rfl⟩⟩
instance pZ3 : CField Tryz.prog 137 0 0 := ⟨⟨_, _, Tryz.underlying137, rfl, rfl, by kernel_rfl⟩⟩
instance nZ8 : CFieldT Tryz.prog 137 0 0 2 := ⟨⟨_, _, Tryz.underlying137, rfl, rfl, rfl⟩⟩
instance pZ2 : CField Tryz.prog 137 1 1 := ⟨⟨_, _, Tryz.underlying137, rfl, rfl, by kernel_rfl⟩⟩
instance nZ7 : CFieldT Tryz.prog 137 1 1 2 := ⟨⟨_, _, Tryz.underlying137, rfl, rfl, rfl⟩⟩
instance pZ1 : CField Tryz.prog 137 2 2 := ⟨⟨_, _, Tryz.underlying137, rfl, rfl, by kernel_rfl⟩⟩
instance nZ6 : CFieldT Tryz.prog 137 2 2 3 := ⟨⟨_, _, Tryz.underlying137, rfl, rfl, rfl⟩⟩
instance pZ0 : CField Tryz.prog 137 3 3 := ⟨⟨_, _, Tryz.underlying137, rfl, rfl, by kernel_rfl⟩⟩
instance nZ5 : CFieldT Tryz.prog 137 3 3 25 := ⟨⟨_, _, Tryz.underlying137, rfl, rfl, rfl⟩⟩
instance pZz : CField Tryz.prog 137 4 4 := ⟨⟨_, _, Tryz.underlying137, rfl, rfl, by kernel_rfl⟩⟩
instance nZ4 : CFieldT Tryz.prog 137 4 4 25 := ⟨⟨_, _, Tryz.underlying137, rfl, rfl, rfl⟩⟩
instance czero_split : CZero Tryz.prog 137 [.int .i64 0, .int .i64 0, .int .i64 0, .slice none 0 0, .slice none 0 0] := ⟨fZJ⟩
instance pZe : CStruct Tryz.prog 137 [(0, 1), (1, 1), (2, 1), (3, 1), (4, 1)] [.int .i64 0, .int .i64 0, .int .i64 0, .slice none 0 0, .slice none 0 0] := ⟨⟨fZJ, _, Tryz.underlying137, fun _ => by kernel_rfl⟩⟩
theorem fZL : cZw Tryz.prog 131 [.int .i64 0, .int .i64 0, .int .i64 0, .int .i64 0, .int .i64 0] := ⟨by kernel_rfl, by simp [Value.oneCell']⟩
instance crow_block : CRow Tryz.prog 131 5 := ⟨⟨_, Tryz.underlying131, rfl, by kernel_rfl⟩⟩
instance pZA : CField Tryz.prog 131 0 0 := ⟨⟨_, _, Tryz.underlying131, rfl, rfl, by kernel_rfl⟩⟩
instance nZF : CFieldT Tryz.prog 131 0 0 3 := ⟨⟨_, _, Tryz.underlying131, rfl, rfl, rfl⟩⟩
instance pZ9 : CField Tryz.prog 131 1 1 := ⟨⟨_, _, Tryz.underlying131, rfl, rfl, by kernel_rfl⟩⟩
instance nZE : CFieldT Tryz.prog 131 1 1 3 := ⟨⟨_, _, Tryz.underlying131, rfl, rfl, rfl⟩⟩
instance pZ8 : CField Tryz.prog 131 2 2 := ⟨⟨_, _, Tryz.underlying131, rfl, rfl, by kernel_rfl⟩⟩
instance nZD : CFieldT Tryz.prog 131 2 2 2 := ⟨⟨_, _, Tryz.underlying131, rfl, rfl, rfl⟩⟩
instance pZ7 : CField Tryz.prog 131 3 3 := ⟨⟨_, _, Tryz.underlying131, rfl, rfl, by kernel_rfl⟩⟩
instance nZC : CFieldT Tryz.prog 131 3 3 2 := ⟨⟨_, _, Tryz.underlying131, rfl, rfl, rfl⟩⟩
instance pZ6 : CField Tryz.prog 131 4 4 := ⟨⟨_, _, Tryz.underlying131, rfl, rfl, by kernel_rfl⟩⟩
instance nZB : CFieldT Tryz.prog 131 4 4 2 := ⟨⟨_, _, Tryz.underlying131, rfl, rfl, rfl⟩⟩
instance czero_block : CZero Tryz.prog 131 [.int .i64 0, .int .i64 0, .int .i64 0, .int .i64 0, .int .i64 0] := ⟨fZL⟩
instance pZg : CStruct Tryz.prog 131 [(0, 1), (1, 1), (2, 1), (3, 1), (4, 1)] [.int .i64 0, .int .i64 0, .int .i64 0, .int .i64 0, .int .i64 0] := ⟨⟨fZL, _, Tryz.underlying131, fun _ => by kernel_rfl⟩⟩
theorem fZc : cZw Tryz.prog 78 [.int .i64 0, .slice none 0 0, .slice none 0 0] := ⟨by kernel_rfl, by simp [Value.oneCell']⟩
instance crow_jordan : CRow Tryz.prog 78 3 := ⟨⟨_, Tryz.underlying78, rfl, by kernel_rfl⟩⟩
instance nZI : CField Tryz.prog 78 0 0 := ⟨⟨_, _, Tryz.underlying78, rfl, rfl, by kernel_rfl⟩⟩
instance nZt : CFieldT Tryz.prog 78 0 0 2 := ⟨⟨_, _, Tryz.underlying78, rfl, rfl, rfl⟩⟩
instance nZH : CField Tryz.prog 78 1 1 := ⟨⟨_, _, Tryz.underlying78, rfl, rfl, by kernel_rfl⟩⟩
instance nZs : CFieldT Tryz.prog 78 1 1 25 := ⟨⟨_, _, Tryz.underlying78, rfl, rfl, rfl⟩⟩
instance nZG : CField Tryz.prog 78 2 2 := ⟨⟨_, _, Tryz.underlying78, rfl, rfl, by kernel_rfl⟩⟩
instance nZr : CFieldT Tryz.prog 78 2 2 76 := ⟨⟨_, _, Tryz.underlying78, rfl, rfl, rfl⟩⟩
instance qZB : CZero Tryz.prog 78 [.int .i64 0, .slice none 0 0, .slice none 0 0] := ⟨fZc⟩
instance nZ3 : CStruct Tryz.prog 78 [(0, 1), (1, 1), (2, 1)] [.int .i64 0, .slice none 0 0, .slice none 0 0] := ⟨⟨fZc, _, Tryz.underlying78, fun _ => by kernel_rfl⟩⟩
instance qZG : CSlice Tryz.prog 76 131 := ⟨Tryz.underlying76⟩
instance celem_block : CElem Tryz.prog 76 131 5 := ⟨Tryz.underlying76, by kernel_rfl⟩
instance cone_blocks : COne Tryz.prog 76 := ⟨⟨_, Tryz.underlying76, rfl, by kernel_rfl⟩⟩
instance crowz_block : CRowZ Tryz.prog 131 5 [.int .i64 0, .int .i64 0, .int .i64 0, .int .i64 0, .int .i64 0] 40 := ⟨by kernel_rfl, rfl, rfl⟩
end
section
open Go.RowKit Limb Det Num
def MB (n m : Nat) (A : Nat → Nat → Int) : Prop := ∀ r x, r < n → x < n → 0 ≤ A r x ∧ A r x < (m : Int)
structure Pm (n : Nat) (π σ : Nat → Nat) : Prop where
 lt : ∀ i, i < n → π i < n
 lt' : ∀ i, i < n → σ i < n
 l : ∀ i, i < n → σ (π i) = i
 r : ∀ i, i < n → π (σ i) = i
theorem Pm.id (n : Nat) : Pm n (fun i => i) (fun i => i) := ⟨fun _ h => h, fun _ h => h, fun _ _ => rfl, fun _ _ => rfl⟩
theorem Pm.lt8 {n : Nat} {π σ : Nat → Nat} (h : Pm n π σ) (hn : n ≤ 8) : ∀ i, i < n → π i < 8 := fun i hi => by have := h.lt i hi; omega
def gM (σ : Nat → Nat) (A : Nat → Nat → Int) (n : Nat) : Nat → List Pd := aZy (fun r c => A (σ r) c) n n
theorem iZO {n : Nat} {π σ : Nat → Nat} {A : Nat → Nat → Int} {f : Nat → Int} (h : Pm n π σ) {k : Nat} (hk : k < n) (hf : ∀ x, x < n → A k x = f x) : gM σ A n (π k) = outL (fun x => ex (.int .i64 (f x))) n := by
 unfold gM
 rw [aZl (h.lt k hk)]
 exact aZu fun x hx => by dsimp only; rw [h.l k hk, hf x hx]
theorem jZy {n : Nat} {A : Nat → Nat → Int} {f : Nat → Int} {k : Nat} (hk : k < n) (hf : ∀ x, x < n → A k x = f x) : aZy A n n k = outL (fun x => ex (.int .i64 (f x))) n := by
 rw [aZl hk]
 exact aZu fun x hx => by rw [hf x hx]
theorem kZf {n : Nat} {π σ : Nat → Nat} {A B : Nat → Nat → Int} {g : Nat → Pd} (h : Pm n π σ) {k : Nat} (hk : k < n) (h1 : ∀ r x, r < n → r ≠ k → x < n → B r x = A r x) (h2 : ∀ x, x < n → g x = ex (.int .i64 (B k x))) : updF (gM σ A n) (π k) (outL g n) = gM σ B n := by
 funext r
 unfold gM
 by_cases hr : r < n
 ·rw [aZl hr]
  by_cases e : r = π k
  ·rw [e, dZA]
   exact aZu fun x hx => by dsimp only; rw [h2 x hx, h.l k hk]
  ·rw [eZl e, aZl hr]
   exact aZu fun x hx => by dsimp only; rw [h1 (σ r) x (h.lt' r hr) (fun q => e (by rw [← q, h.r r hr])) hx]
 ·rw [aZo hr, eZl (by have := h.lt k hk; omega), aZo hr]
theorem hZy {n : Nat} {A B : Nat → Nat → Int} {g : Nat → Pd} {k : Nat} (hk : k < n) (h1 : ∀ r x, r < n → r ≠ k → x < n → B r x = A r x) (h2 : ∀ x, x < n → g x = ex (.int .i64 (B k x))) : updF (aZy A n n) k (outL g n) = aZy B n n := kZf (Pm.id n) hk h1 h2
theorem gZU {n : Nat} {π σ : Nat → Nat} {A B : Nat → Nat → Int} (h : Pm n π σ) (h1 : ∀ r x, r < n → x < n → A r x = B r x) : gM σ A n = gM σ B n := by
 funext r
 unfold gM
 by_cases hr : r < n
 ·rw [aZl hr, aZl hr]
  exact aZu fun x hx => by dsimp only; rw [h1 _ x (h.lt' r hr) hx]
 ·rw [aZo hr, aZo hr]
def colA (m : Nat) (c : Int) (i j k : Nat) (A : Nat → Nat → Int) : Nat → Nat → Int := fun r x => if r < k ∧ x = j then (A r j + c * A r i) % (m : Int) else A r x
def rowA (m : Nat) (c : Int) (i j k : Nat) (A : Nat → Nat → Int) : Nat → Nat → Int := fun r x => if r = j ∧ x < k then (A j x + c * A i x) % (m : Int) else A r x
def addM (m : Nat) (c : Int) (i j n : Nat) (A : Nat → Nat → Int) : Nat → Nat → Int := rowA m c i j n (colA m c i j n A)
theorem MB.colA {n m : Nat} {A : Nat → Nat → Int} (h : MB n m A) (hm : 1 ≤ m) (c : Int) (i j k : Nat) : MB n m (colA m c i j k A) := fun r x hr hx => by
 unfold Go.Proofs.YtfmjdlogjmofbaaGreatDoor.colA
 split
 ·exact ⟨Int.emod_nonneg _ oM, Int.emod_lt_of_pos _ oM⟩
 ·exact h r x hr hx
theorem MB.rowA {n m : Nat} {A : Nat → Nat → Int} (h : MB n m A) (hm : 1 ≤ m) (c : Int) (i j k : Nat) : MB n m (rowA m c i j k A) := fun r x hr hx => by
 unfold Go.Proofs.YtfmjdlogjmofbaaGreatDoor.rowA
 split
 ·exact ⟨Int.emod_nonneg _ oM, Int.emod_lt_of_pos _ oM⟩
 ·exact h r x hr hx
theorem MB.addM {n m : Nat} {A : Nat → Nat → Int} (h : MB n m A) (hm : 1 ≤ m) (c : Int) (i j : Nat) : MB n m (addM m c i j n A) := (h.colA hm c i j n).rowA hm c i j n
theorem pZG (a b m : Int) : (a + b.tmod m) % m = (a + b) % m := by
 have e := Int.tmod_add_mul_tdiv b m
 rw [show a + b = (a + b.tmod m) + m * (b.tdiv m) by omega, Int.add_mul_emod_self_left]
theorem dZ6 {m : Nat} {c x : Int} (hm : m ≤ 2147483648) (hc : c.natAbs ≤ 2147483648) (hx : 0 ≤ x ∧ x < m) : -4611686018427387904 ≤ c * x ∧ c * x ≤ 4611686018427387904 := by
 have h1 : (c * x).natAbs = c.natAbs * x.natAbs := Int.natAbs_mul ..
 have h2 : c.natAbs * x.natAbs ≤ 2147483648 * 2147483648 := Nat.mul_le_mul hc oM
 omega
theorem tmod_bd (a : Int) {m : Nat} (hm : 1 ≤ m) : -(m : Int) < a.tmod m ∧ a.tmod m < m := by
 have h := Int.natAbs_tmod a m
 have h2 : a.natAbs % (m : Int).natAbs < (m : Int).natAbs := Nat.mod_lt _ oM
 rw [← h] at h2
 omega
def valN (p k x : Nat) : Nat := if x = 0 then k else expo p x
instance cbody140 : CBody Tryz.prog 140 := ⟨⟨_, Tryz.func140, rfl, by rfl⟩⟩
instance cbody87 : CBody Tryz.prog 87 := ⟨⟨_, Tryz.func87, rfl, by rfl⟩⟩
instance cbody85 : CBody Tryz.prog 85 := ⟨⟨_, Tryz.func85, rfl, by rfl⟩⟩
instance cbody84 : CBody Tryz.prog 84 := ⟨⟨_, Tryz.func84, rfl, by rfl⟩⟩
instance cbody88 : CBody Tryz.prog 88 := ⟨⟨_, Tryz.func88, rfl, by rfl⟩⟩
instance cbody32 : CBody Tryz.prog 32 := ⟨⟨_, Tryz.func32, rfl, by rfl⟩⟩
section
variable (En : Ev)
theorem qZz (p k x n : Nat) (m : Int) (π : Nat → Nat) (g t : Nat → List Pd) (hn : n ≤ 8) (hπ : ∀ i, i < n → π i < 8) (hp : 2 ≤ p) (hp2 : p ≤ 4294967296) (hx : x ≤ 4294967296) : FnG Tryz.prog En 140 [.ptr 1750 0, .one (ex (.int .i64 (x : Int)))] (sbc (p : Int) m (k : Int) n π g t) (.one (ex (.int .i64 ((valN p k x : Nat) : Int)))) (sbc (p : Int) m (k : Int) n π g t) := by
 have C1 := hZT En x p hp hp2 hx
 unfold valN
 by_cases h0 : x = 0
 ·rw [if_pos h0]
  refine aZr Tryz.func140 rfl Tryz.ntmps140 rfl ?_
  intro w0 h0 c
  refine js<|jr<|ja jj<|jn<|js<|js<|jr<|jm jj<|jS (bEt jj jj)<|jn<|jt jj<|js<|jr<|jm jj<|jS (aZe jj)<|jF jj jj<|jS (bZZ jj jj jj)<|ja jj<|jn<|ji ?_
  exact dZm rfl rfl (SLe.rfl' _) trivial (bZs rfl rfl fFs rfl fFs (fun _ _ => PsLe.refl _) (fun _ _ => PsLe.refl _)) (bZf oM hπ)
 ·rw [if_neg h0]
  refine aZr Tryz.func140 rfl Tryz.ntmps140 rfl ?_
  intro w0 h0 c
  refine js<|jr<|ja jj<|jn<|js<|js<|jr<|jm jj<|jS (bEf jj jj)<|jn<|jf jj<|jp<|js<|jr<|jm jj<|jm jj<|jS (aZe jj)<|jF jj jj<|jS (bZZ jj jj jj)<|jS (aZa C1 tB)<|ja jj<|jn<|ji ?_
  exact dZm rfl rfl (SLe.rfl' _) trivial (bZs rfl rfl fFs rfl fFs (fun _ _ => PsLe.refl _) (fun _ _ => PsLe.refl _)) (bZf oM hπ)
set_option maxHeartbeats 1000000 in
theorem hadd (p m k n i j : Nat) (v : Int) (π σ : Nat → Nat) (A T : Nat → Nat → Int) (hP : Pm n π σ) (hn : n ≤ 8) (hi : i < n) (hj : j < n) (hij : i ≠ j) (hm : 1 ≤ m) (hm2 : m ≤ 2147483648) (hc : v.natAbs ≤ 2147483648) (hA : MB n m A) (hT : MB n m T) : FnG Tryz.prog En 87 [.ptr 1750 0, .one (ex (.int .i64 v)), .one (ex (.int .i64 (i : Int))), .one (ex (.int .i64 (j : Int)))] (sbc (p : Int) (m : Int) (k : Int) n π (gM σ A n) (aZy T n n)) (.one (ex (.tuple #[]))) (sbc (p : Int) (m : Int) (k : Int) n π (gM σ (addM m v i j n A) n) (aZy (colA m v i j n T) n n)) := by
 have hπ := hP.lt8 hn
 have hm0 : (m : Int) ≠ 0 := oM
 have step : ∀ a x y : Int, 0 ≤ x ∧ x < (m : Int) → 0 ≤ y ∧ y < (m : Int) → (IntKind.i64.wrap (v * y) = v * y ∧ IntKind.i64.wrap (x + (v * y).tmod (m : Int)) = x + (v * y).tmod (m : Int)) := fun a x y hx hy => by
  have h1 := dZ6 hm2 hc hy
  have h2 := tmod_bd (v * y) hm
  exact ⟨w64 oM oM, w64 oM oM⟩
 have C : ∀ x y : Int, Fn Tryz.prog En 139 [ex (.int .i64 (x + (v * y).tmod (m : Int))), ex (.int .i64 (m : Int))] (ex (.int .i64 ((x + v * y) % (m : Int)))) := fun x y => by
  have := gmod En (x + (v * y).tmod (m : Int)) (m : Int) oM oM
  rwa [pZG] at this
 refine aZr Tryz.func87 rfl Tryz.ntmps87 rfl ?_
 intro w0 h0 c
 refine js<|js<|jr<|jm jj<|jS (aZe jj)<|jF jj jj<|jS (aZx jj jj jj uG)<|jS (aZE jj CSlice.ok)<|jm jj<|jn<|jb ?_
 refine WpD.loop (α := {l : Nat // l ≤ n}) (fun l => ⟨[(0, .ptr 1750 0), (1, .one (ex (.int .i64 v))), (2, .one (ex (.int .i64 (i : Int)))), (3, .one (ex (.int .i64 (j : Int)))), (15, .one (ex (.int .i64 (n : Int)))), (16, .one (ex (.int .i64 (l.1 : Int))))], sbc (p : Int) (m : Int) (k : Int) n π (gM σ (colA m v i j l.1 A) n) (aZy T n n)⟩) (fun l => n - l.1) ⟨0, Nat.zero_le _⟩ ?_ ?_
 ·dsimp only
  exact Sub.mk sJ (bZs rfl rfl fFs rfl fFs (fun r hr => PsLe.of (congrFun (gZU hP fun a b _ _ => by unfold colA; rw [if_neg oM]) r)) (fun r hr => PsLe.refl _)) (bZf oM hπ)
 rintro ⟨l, hl⟩
 dsimp only
 by_cases hln : l < n
 ·have hr8 := hπ l hln
  have he : gM σ (colA m v i j l A) n (π l) = outL (fun x => ex (.int .i64 (A l x))) n := iZO hP hln fun x _ => by unfold colA; rw [if_neg oM]
  obtain ⟨e1, e2⟩ := step 0 (A l j) (A l i) (hA l j hln hj) (hA l i hln hi)
  refine js<|jr<|jS (bLt jj jj)<|jn<|js<|jt jj<|jp<|js<|jb<|js<|jr<|jm jj<|ja jj<|jn<|jr<|jm jj<|jS (aZe jj)<|jF jj jj<|jS (aZx jj jj jj uG)<|jm jj<|jS (aZd jj jj aO) ?_
  refine jS (aZt jj jj aO jj aG)<|jm jj<|jm jj<|jS (aZe jj)<|jF jj jj<|jS (aZx jj jj jj uG)<|jm jj<|jS (aZd jj jj aO) ?_
  refine jS (aZt jj jj aO jj aG)<|jm jj<|jS (aZd jj jj aO)<|jS (aZ8 jj fFs aO aR aO) ?_
  refine jm jj<|jm jj<|jS (aZe jj)<|jF jj jj<|jS (aZx jj jj jj uG)<|jm jj<|jS (aZd jj jj aO) ?_
  refine jS (aZt jj jj aO jj aG)<|jm jj<|jS (aZd jj jj aO)<|jS (aZ8 jj fFs aO aR aO) ?_
  refine jS (bMu jj jj e1)<|jm jj<|jS (aZe jj)<|jF jj jj<|jS (bZZ jj jj jj)<|jS (aZ6 jj jj (fun w => cZz w _ _ _ _ _ _ aW))<|jS (bAd jj jj e2)<|jm jj<|jS (aZe jj)<|jF jj jj<|jS (bZZ jj jj jj)<|jS (aZa (C (A l j) (A l i)) tB)<|jS (aZd jj jj aO)<|RG.NW (LT.plain jj (bZO jj jj fFs aO aR aO)) jj ?_
  refine jn<|jr<|jS (bAd jj jj wO)<|jm jj<|jn ?_
  refine ⟨⟨l + 1, oM⟩, ?_, oD⟩
  dsimp only
  exact Sub.mk sJ (bZs rfl rfl fFs rfl fFs (fun r hr => PsLe.of (congrFun (kZf (B := colA m v i j (l + 1) A) hP hln (fun a b _ hne _ => by unfold colA; by_cases e : a < l ∧ b = j; rw [if_pos e, if_pos oM]; rw [if_neg e, if_neg oM]) (fun x _ => by unfold colA; by_cases e : x = j; rw [if_pos e, if_pos oM]; rw [if_neg e, if_neg oM])) r)) (fun r hr => PsLe.refl _)) (bZf oM hπ)
 ·have e : l = n := oM
  subst e
  have hB := hA.colA hm v i j l
  generalize hBe : colA m v i j l A = B at *
  refine js<|jr<|jS (bLf jj jj)<|jn<|js<|jf jj<|je<|js<|js<|jr<|jm jj<|jS (aZe jj)<|jF jj jj<|jS (aZx jj jj jj uG)<|jS (aZE jj CSlice.ok)<|jm jj<|jn<|jb ?_
  refine WpD.loop (α := {q : Nat // q ≤ l}) (fun q => ⟨[(0, .ptr 1750 0), (1, .one (ex (.int .i64 v))), (2, .one (ex (.int .i64 (i : Int)))), (3, .one (ex (.int .i64 (j : Int)))), (66, .one (ex (.int .i64 (l : Int)))), (67, .one (ex (.int .i64 (q.1 : Int))))], sbc (p : Int) (m : Int) (k : Int) l π (gM σ (rowA m v i j q.1 B) l) (aZy T l l)⟩) (fun q => l - q.1) ⟨0, Nat.zero_le _⟩ ?_ ?_
  ·dsimp only
   exact Sub.mk sJ (bZs rfl rfl fFs rfl fFs (fun r hr => PsLe.of (congrFun (gZU hP fun a b _ _ => by unfold rowA; rw [if_neg oM]) r)) (fun r hr => PsLe.refl _)) (bZf oM hπ)
  rintro ⟨q, hq⟩
  dsimp only
  by_cases hqn : q < l
  ·have hr8 := hπ j hj
   have hr8' := hπ i hi
   have he : gM σ (rowA m v i j q B) l (π j) = outL (fun x => ex (.int .i64 (rowA m v i j q B j x))) l := iZO hP hj fun x _ => rfl
   have he' : gM σ (rowA m v i j q B) l (π i) = outL (fun x => ex (.int .i64 (B i x))) l := iZO hP hi fun x _ => by unfold rowA; rw [if_neg oM]
   obtain ⟨e1, e2⟩ := step 0 (B j q) (B i q) (hB j q hj hqn) (hB i q hi hqn)
   have e0 : rowA m v i j q B j q = B j q := by unfold rowA; rw [if_neg oM]
   rw [← e0] at e2
   have C1 := C (B j q) (B i q)
   rw [← e0] at C1
   refine js<|jr<|jS (bLt jj jj)<|jn<|js<|jt jj<|jp<|js<|jb<|js<|jr<|jm jj<|ja jj<|jn<|jr<|jm jj<|jS (aZe jj)<|jF jj jj<|jS (aZx jj jj jj uG)<|jm jj<|jS (aZd jj jj aO) ?_
   refine jS (aZt jj jj aO jj aG)<|jm jj<|jm jj<|jS (aZe jj)<|jF jj jj<|jS (aZx jj jj jj uG)<|jm jj<|jS (aZd jj jj aO) ?_
   refine jS (aZt jj jj aO jj aG)<|jm jj<|jS (aZd jj jj aO)<|jS (aZ8 jj fFs aO aR aO) ?_
   refine jm jj<|jm jj<|jS (aZe jj)<|jF jj jj<|jS (aZx jj jj jj uG)<|jm jj<|jS (aZd jj jj aO) ?_
   refine jS (aZt jj jj aO jj aG)<|jm jj<|jS (aZd jj jj aO)<|jS (aZ8 jj fFs aO aR aO) ?_
   refine jS (bMu jj jj e1)<|jm jj<|jS (aZe jj)<|jF jj jj<|jS (bZZ jj jj jj)<|jS (aZ6 jj jj (fun w => cZz w _ _ _ _ _ _ aW))<|jS (bAd jj jj e2)<|jm jj<|jS (aZe jj)<|jF jj jj<|jS (bZZ jj jj jj)<|jS (aZa C1 tB)<|jS (aZd jj jj aO)<|RG.NW (LT.plain jj (bZO jj jj fFs aO aR aO)) jj ?_
   refine jn<|jr<|jS (bAd jj jj wO)<|jm jj<|jn ?_
   refine ⟨⟨q + 1, oM⟩, ?_, oD⟩
   dsimp only
   refine Sub.mk ?_ (bZs rfl rfl fFs rfl fFs (fun r hr => PsLe.of (congrFun (kZf (B := rowA m v i j (q + 1) B) hP hj (fun a b _ hne _ => by unfold rowA; rw [if_neg oM, if_neg oM]) (fun x _ => ?_)) r)) (fun r hr => PsLe.refl _)) (bZf oM hπ)
   ·repeat (first | exact trivial | refine jv rfl ?_ | refine jw rfl (js0 rfl) ?_)
   by_cases e : x = q
   ·rw [if_pos e, e0]
    unfold rowA
    rw [if_pos ⟨rfl, oM⟩, e]
   ·rw [if_neg e]
    unfold rowA
    by_cases e3 : x < q
    ·rw [if_pos ⟨rfl, e3⟩, if_pos ⟨rfl, oM⟩]
    ·rw [if_neg oM, if_neg oM]
  ·have e : q = l := oM
   subst e
   have hD : rowA m v i j q B = addM m v i j q A := by unfold addM; rw [hBe]
   rw [hD]
   refine js<|jr<|jS (bLf jj jj)<|jn<|js<|jf jj<|je<|js<|jr<|jm jj<|jS (aZe jj)<|jF jj jj<|jS (aZx jj jj jj uG)<|jS (aZE jj CSlice.ok)<|jm jj<|jn<|jb ?_
   refine WpD.loop (α := {o : Nat // o ≤ q}) (fun o => ⟨[(0, .ptr 1750 0), (1, .one (ex (.int .i64 v))), (2, .one (ex (.int .i64 (i : Int)))), (3, .one (ex (.int .i64 (j : Int)))), (117, .one (ex (.int .i64 (q : Int)))), (118, .one (ex (.int .i64 (o.1 : Int))))], sbc (p : Int) (m : Int) (k : Int) q π (gM σ (addM m v i j q A) q) (aZy (colA m v i j o.1 T) q q)⟩) (fun o => q - o.1) ⟨0, Nat.zero_le _⟩ ?_ ?_
   ·dsimp only
    exact Sub.mk sJ (bZs rfl rfl fFs rfl fFs (fun r hr => PsLe.refl _) (fun r hr => PsLe.of (congrFun (bZy fun a b _ _ => by unfold colA; rw [if_neg oM]) r))) (bZf oM hπ)
   rintro ⟨o, ho⟩
   dsimp only
   by_cases hon : o < q
   ·have hr8 : o < 8 := oM
    have he : aZy (colA m v i j o T) q q o = outL (fun x => ex (.int .i64 (T o x))) q := jZy hon fun x _ => by unfold colA; rw [if_neg oM]
    obtain ⟨e1, e2⟩ := step 0 (T o j) (T o i) (hT o j hon hj) (hT o i hon hi)
    refine js<|jr<|jS (bLt jj jj)<|jn<|js<|jt jj<|jp<|js<|jb<|js<|jr<|jm jj<|ja jj<|jn<|jr<|jm jj<|jS (aZe jj)<|jF jj jj<|jS (aZx jj jj jj uG)<|jm jj<|jS (aZd jj jj aO) ?_
    refine jS (aZt jj jj aO jj aG)<|jm jj<|jm jj<|jS (aZe jj)<|jF jj jj<|jS (aZx jj jj jj uG)<|jm jj<|jS (aZd jj jj aO) ?_
    refine jS (aZt jj jj aO jj aG)<|jm jj<|jS (aZd jj jj aO)<|jS (aZ8 jj fFs aO aR aO) ?_
    refine jm jj<|jm jj<|jS (aZe jj)<|jF jj jj<|jS (aZx jj jj jj uG)<|jm jj<|jS (aZd jj jj aO) ?_
    refine jS (aZt jj jj aO jj aG)<|jm jj<|jS (aZd jj jj aO)<|jS (aZ8 jj fFs aO aR aO) ?_
    refine jS (bMu jj jj e1)<|jm jj<|jS (aZe jj)<|jF jj jj<|jS (bZZ jj jj jj)<|jS (aZ6 jj jj (fun w => cZz w _ _ _ _ _ _ aW))<|jS (bAd jj jj e2)<|jm jj<|jS (aZe jj)<|jF jj jj<|jS (bZZ jj jj jj)<|jS (aZa (C (T o j) (T o i)) tB)<|jS (aZd jj jj aO)<|RG.NW (LT.plain jj (bZO jj jj fFs aO aR aO)) jj ?_
    refine jn<|jr<|jS (bAd jj jj wO)<|jm jj<|jn ?_
    refine ⟨⟨o + 1, oM⟩, ?_, oD⟩
    dsimp only
    exact Sub.mk sJ (bZs rfl rfl fFs rfl fFs (fun r hr => PsLe.refl _) (fun r hr => PsLe.of (congrFun (hZy (B := colA m v i j (o + 1) T) hon (fun a b _ hne _ => by unfold colA; by_cases e : a < o ∧ b = j; rw [if_pos e, if_pos oM]; rw [if_neg e, if_neg oM]) (fun x _ => by unfold colA; by_cases e : x = j; rw [if_pos e, if_pos oM]; rw [if_neg e, if_neg oM])) r))) (bZf oM hπ)
   ·have e : o = q := oM
    subst e
    refine js<|jr<|jS (bLf jj jj)<|jn<|js<|jf jj<|je ?_
    exact oZq rfl (bZs rfl rfl fFs rfl fFs (fun _ _ => PsLe.refl _) (fun _ _ => PsLe.refl _)) (bZf oM hπ)
end
end
end Go.Proofs.YtfmjdlogjmofbaaGreatDoor

/- Power sums of the program: natural.add, natural.scale, powerSums. -/
import Derived.Test.YtpiflllcjgpkhaaGreatDoorBn
import Derived.Test.YtpiflllcjgpkhaaGreatDoorSymbol
import Derived.Test.YtpiflllcjgpkhaaGreatDoorDisc
set_option maxRecDepth 3000
namespace Go.Proofs.YtpiflllcjgpkhaaGreatDoor
open Go.RowKit Limb Num
instance crowz_int : CRowZ Tryz.prog 25 2 [.bool false, .slice none 0 0] 32 := ⟨by kernel_rfl, rfl, rfl⟩
/-- Limbs times a number. -/
def ScInv (X : List Nat) (a i : Nat) (O : List Nat) (c : Nat) : Prop := O.length = i ∧ Lm O ∧ c < B ∧ val O + B ^ i * c = val (X.take i) * a
theorem ScInv.step {X : List Nat} {a i x : Nat} {O : List Nat} {c : Nat} (hX : Lm X) (ha : a < 2147483648) (hx : X[i]? = some x) (h : ScInv X a i O c) : ScInv X a (i + 1) (O ++ [(c + x * a) % B]) ((c + x * a) / B) ∧ c + x * a < 18446744073709551616 := by
  obtain ⟨h1, h2, h3, h4⟩ := h
  have hxB := hX.get hx
  have hm : x * a ≤ 4294967295 * 2147483647 := Nat.mul_le_mul (by rw [B_def] at hxB; omega) (by omega)
  have hlt : c + x * a < 18446744073709551616 := by rw [B_def] at h3; omega
  refine ⟨⟨by simp [h1], lm_snoc h2 (Nat.mod_lt _ B_pos), ?_, ?_⟩, hlt⟩
  · rw [Nat.div_lt_iff_lt_mul B_pos, B_def]; omega
  · rw [val_snoc, h1, val_take_succ, hx, Option.getD_some, Nat.add_mul, ← h4]
    have e := Nat.div_add_mod (c + x * a) B
    have : B ^ i * (c + x * a) = B ^ i * (B * ((c + x * a) / B)) + B ^ i * ((c + x * a) % B) := by rw [← Nat.mul_add, e]
    rw [Nat.pow_succ, Nat.mul_assoc, Nat.mul_assoc (B ^ i) x a]
    rw [Nat.mul_add] at this
    omega
theorem setM (Lo N Hi : List Nat) (y x : Nat) {i o : Nat} (hN : N.length = i) (ho : o = Lo.length + i) : ((Lo ++ (N ++ (y :: Hi))).map lb).set o (lb x) = (Lo ++ ((N ++ [x]) ++ Hi)).map lb := by
  subst ho
  have := setL (Lo ++ N) Hi y x
  rw [List.length_append, hN] at this
  simp only [List.append_assoc, List.cons_append, List.nil_append] at this ⊢
  exact this
theorem getM (Lo N Hi : List Nat) (y : Nat) {i o : Nat} (hN : N.length = i) (ho : o = Lo.length + i) : ((Lo ++ (N ++ (y :: Hi))).map lb)[o]? = some (lb y) := by
  subst ho
  refine getL ?_
  rw [List.getElem?_append_right (by omega), List.getElem?_append_right (by omega)]
  rw [show Lo.length + i - Lo.length - N.length = 0 by omega]
  rfl
theorem getP (Lo : List Pd) (N Z : List Nat) (Hi : List Pd) (y : Nat) {i o : Nat} (hN : N.length = i) (ho : o = Lo.length + i) : (Lo ++ ((N ++ y :: Z).map lb ++ Hi))[o]? = some (lb y) := by
  subst ho
  rw [List.getElem?_append_right (by omega), List.map_append, List.append_assoc, List.getElem?_append_right (by simp; omega)]
  rw [show Lo.length + i - Lo.length - (N.map lb).length = 0 by simp; omega]
  rfl
theorem setP (Lo : List Pd) (N Z : List Nat) (Hi : List Pd) (y x : Nat) {i o : Nat} (hN : N.length = i) (ho : o = Lo.length + i) : (Lo ++ ((N ++ y :: Z).map lb ++ Hi)).set o (lb x) = Lo ++ (((N ++ [x]) ++ Z).map lb ++ Hi) := by
  subst ho
  rw [List.set_append_right _ _ (by omega), List.map_append, List.append_assoc, List.set_append_right _ _ (by simp; omega)]
  rw [show Lo.length + i - Lo.length - (N.map lb).length = 0 by simp; omega]
  simp
section
variable (En : Ev)
end
/-- The sums over the numbers whose symbol is s. -/
def acc (s d : Int) (j : Nat) : Nat → Nat
  | 0 => 0
  | m + 1 => acc s d j m + (if krZ d ((m + 1 : Nat) : Int) = s then (m + 1) ^ j else 0)
theorem acc_pos {s d : Int} {j m : Nat} (h : krZ d ((m + 1 : Nat) : Int) = s) : acc s d j (m + 1) = acc s d j m + (m + 1) ^ j := by rw [acc, if_pos h]
theorem acc_neg {s d : Int} {j m : Nat} (h : krZ d ((m + 1 : Nat) : Int) ≠ s) : acc s d j (m + 1) = acc s d j m := by rw [acc, if_neg h]; rfl
theorem acc_le (s d : Int) {j m F : Nat} (h : m ≤ F) : acc s d j m ≤ m * F ^ j := by
  induction m with
  | zero => simp [acc]
  | succ m ih =>
    have h1 := ih (by omega)
    have h2 : (m + 1) ^ j ≤ F ^ j := Nat.pow_le_pow_left h _
    rw [acc, Nat.succ_mul]
    split <;> omega
theorem big11 : 40000 ^ 21 < B ^ 11 := by rw [B_def]; decide +kernel
def psS (d : Int) (f j : Nat) : Int := (acc 1 d j f : Int) - (acc (-1) d j f : Int)
theorem rows_split {f : Nat → List Pd} {k : Nat} (hf : ∀ i, (f i).length = k) : ∀ {n j : Nat}, j < n → ∃ Lo Hi, Lo.length = j * k ∧ rows f n = Lo ++ (f j ++ Hi) ∧ ∀ g : Nat → List Pd, (∀ t, t ≠ j → g t = f t) → rows g n = Lo ++ (g j ++ Hi)
  | 0, _, h => by omega
  | n + 1, j, h => by
    by_cases e : j = n
    · subst e
      refine ⟨rows f j, [], rows_len hf j, by rw [rows_succ]; simp, fun g hg => ?_⟩
      rw [rows_succ, rows_congr (g := f) fun i hi => hg i (by omega)]; simp
    · obtain ⟨Lo, Hi, h1, h2, h3⟩ := rows_split hf (n := n) (j := j) (by omega)
      refine ⟨Lo, Hi ++ f n, h1, by rw [rows_succ, h2]; simp, fun g hg => ?_⟩
      rw [rows_succ, h3 g hg, hg n (fun h => e h.symm)]; simp
theorem rows_put {f : Nat → List Pd} {k : Nat} (hf : ∀ i, (f i).length = k) {n j : Nat} (h : j < n) {q : List Pd} (hq : q.length = k) {g : Nat → List Pd} (hg : ∀ t, t < n → g t = if t = j then q else f t) : putL (rows f n) (j * k) q = rows g n := by
  obtain ⟨Lo, Hi, h1, h2, h3⟩ := rows_split hf h
  rw [rows_congr hg, h3 (fun t => if t = j then q else f t) (fun t ht => if_neg ht), h2, ← h1, putL_behind _ _ _ (by simp [hf, hq])]
  simp [hf, hq]
theorem arr_slc {ps : List Pd} {k n cap : Nat} (hl : ps.length = n * k) (hc : n ≤ cap) : PLe (arrP ps 0 n cap) (slc k ps n) := by
  rintro h v ⟨B, vs, cap', h1, ⟨h2, h3⟩, h4, h5⟩
  exact ⟨_, cap', h1, by omega, h3, (fun h => by cases h), hl, fun _ => ⟨B, 0, vs, rfl, h4, fun j u hu => by rw [Nat.zero_add]; exact h5 j u hu⟩⟩
theorem slc_mag {l : List Nat} {n : Nat} (hn : l.length = n) (hl : Lm l) : PLe (slc 1 (l.map lb) n) (mag l) := by
  subst hn
  rintro h v ⟨a, cap, h1, h2, h3, h4, h5, h6⟩
  refine ⟨⟨a, cap, h1, h2, ⟨h3, h4⟩, fun hne => ?_⟩, hl⟩
  obtain ⟨b, off, vs, e, ha, hc⟩ := h6 (by simpa using hne)
  rw [all2_lb ha] at hc
  exact ⟨b, off, e, fun j x hx => hc j _ (by rw [List.getElem?_map, hx]; rfl)⟩
theorem agg_two {p q p' q' : Pd} (h1 : PLe p p') (h2 : PLe q q') : PLe (aggP [p, q]) (aggP [p', q']) := by
  rintro h v ⟨vs, rfl, ha⟩
  obtain ⟨u, x, rfl, hu, hx, o1, o2⟩ := ha.two
  exact ⟨_, rfl, h1 _ _ hu, o1, h2 _ _ hx, o2, trivial⟩
theorem fkron (En : Ev) (a n : Int) (ha : InR a) (hn : InR n) : Fn Tryz.prog En 20 [ex (.int .i64 a), ex (.int .i64 n)] (tupP [ex (.int .i64 (krZ a n)), ex (.int .i64 0)]) := by
  intro h w vs _ hh hv
  obtain ⟨v, u, rfl, h1, h2⟩ := hv.two
  have h1 : v = .int .i64 a := h1
  have h2 : u = .int .i64 n := h2
  subst h1 h2
  refine (kron_any a n w ha hn).mono ?_
  rintro e w' ⟨rfl, rfl⟩
  exact fn_post hh (Below.refl _ _) ⟨[_, _], rfl, rfl, rfl, trivial⟩
instance cbody20 : CBody Tryz.prog 20 := ⟨⟨_, Tryz.func20, rfl, by rfl⟩⟩
section
variable (En : Ev)
end
end Go.Proofs.YtpiflllcjgpkhaaGreatDoor

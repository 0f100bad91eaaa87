/- The numbers of LLL stay small. Plain. -/
import Derived.Test.YtfmjdlogjmofbaaGreatDoorGj
import Derived.Test.YtfmjdlogjmofbaaGreatDoorGk
import Derived.Test.YtfmjdlogjmofbaaGreatDoorW
set_option maxRecDepth 3000
namespace Go.Proofs.YtfmjdlogjmofbaaGreatDoor.Det
theorem nZW {x c : Int} (hc : 0 ≤ c) (h : x * x ≤ c * c) : -c ≤ x ∧ x ≤ c := by
 constructor
 ·by_cases g : -c ≤ x
  ·exact g
  ·exfalso
   have h1 : (c + 1) * (c + 1) ≤ (-x) * (-x) := Int.mul_le_mul oM oM oM oM
   have h2 : (-x) * (-x) = x * x := by grind
   have h3 : (c + 1) * (c + 1) = c * c + 2 * c + 1 := by grind
   omega
 ·by_cases g : x ≤ c
  ·exact g
  ·exfalso
   have h1 : (c + 1) * (c + 1) ≤ x * x := Int.mul_le_mul oM oM oM oM
   have h3 : (c + 1) * (c + 1) = c * c + 2 * c + 1 := by grind
   omega
theorem kZ1 {x c : Int} (h1 : -c ≤ x) (h2 : x ≤ c) : x * x ≤ c * c := by
 rcases Int.le_total 0 x with h | h
 ·exact Int.mul_le_mul h2 h2 h oM
 ·have h3 : (-x) * (-x) ≤ c * c := Int.mul_le_mul oM oM oM oM
  have h4 : (-x) * (-x) = x * x := by grind
  omega
theorem cs2 {a b c x y : Int} (ha : 0 ≤ a) (hb : 0 ≤ b) (h : c * c ≤ a * b) : 2 * (c * (x * y)) ≤ a * (y * y) + b * (x * x) := by
 have hs : 0 ≤ a * (y * y) + b * (x * x) := by
  have h1 := Int.mul_nonneg ha (gZ1 y)
  have h2 := Int.mul_nonneg hb (gZ1 x)
  omega
 refine (nZW hs ?_).2
 have h1 : (2 * (c * (x * y))) * (2 * (c * (x * y))) = 4 * ((c * c) * ((x * x) * (y * y))) := by grind
 have h2 : (a * (y * y) + b * (x * x)) * (a * (y * y) + b * (x * x)) = (a * (y * y) - b * (x * x)) * (a * (y * y) - b * (x * x)) + 4 * ((a * b) * ((x * x) * (y * y))) := by grind
 have h3 := gZ1 (a * (y * y) - b * (x * x))
 have h4 : (c * c) * ((x * x) * (y * y)) ≤ (a * b) * ((x * x) * (y * y)) := Int.mul_le_mul_of_nonneg_right h (Int.mul_nonneg (gZ1 x) (gZ1 y))
 rw [h1, h2]
 omega
theorem bm_cs {M : Mx} {n i j : Nat} (hs : Sym M) (hp : Pos n M) (hi : i < n) (hj : j < i) : ∀ d k, k + d = j → bm M k i j * bm M k i j ≤ bm M k i i * bm M k j j
 | 0, k, h => by
  have e : k = j := oM
  subst e
  have e := cZN hs hp (k := k) (r := i) hj hi
  have h1 := Int.mul_pos (iZx hs hp hi (i - (k + 1)) (k + 1) oM) (hp k oM)
  have h2 : bm M k k k = det (k + 1) M := cZc M k
  have h3 : bm M k i k = lam M i k := rfl
  rw [h2, h3, Int.mul_comm]
  rw [Int.mul_comm (bm M k i i)]
  omega
 | d + 1, k, h => by
  have ih := bm_cs hs hp hi hj d (k + 1) oM
  have ei := cZN hs hp (k := k) (r := i) oM hi
  have ej := cZN hs hp (k := k) (r := j) oM oM
  have e := fZD (M := M) (k := k) (i := i) (j := j) (fun l hl => by have := hp (l + 1) oM; omega) oM oM
  rw [cZc, hs.bm k k j] at e
  have hk := hp k oM
  have hk1 := hp (k + 1) oM
  have pi := iZx hs hp hi (i - (k + 1)) (k + 1) oM
  have pj := iZx hs hp (show j < n by omega) (j - (k + 1)) (k + 1) oM
  have h1 : (bm M (k + 1) i j * det k M) * (bm M (k + 1) i j * det k M) ≤ (bm M (k + 1) i i * det k M) * (bm M (k + 1) j j * det k M) := by
   have := Int.mul_le_mul_of_nonneg_right ih (Int.le_of_lt (Int.mul_pos hk hk))
   have e1 : (bm M (k + 1) i j * det k M) * (bm M (k + 1) i j * det k M) = bm M (k + 1) i j * bm M (k + 1) i j * (det k M * det k M) := by grind
   have e2 : (bm M (k + 1) i i * det k M) * (bm M (k + 1) j j * det k M) = bm M (k + 1) i i * bm M (k + 1) j j * (det k M * det k M) := by grind
   omega
  have h2 := cs2 (x := lam M i k) (y := lam M j k) (Int.le_of_lt (Int.mul_pos pi hk)) (Int.le_of_lt (Int.mul_pos pj hk)) h1
  have h3 : bm M k j k = lam M j k := rfl
  have h4 : bm M k i k = lam M i k := rfl
  rw [h3, h4] at e
  generalize bm M (k + 1) i j * det k M = c at *
  generalize bm M (k + 1) i i * det k M = a at *
  generalize bm M (k + 1) j j * det k M = b at *
  generalize det (k + 1) M = D at *
  generalize lam M i k = x at *
  generalize lam M j k = y at *
  generalize bm M k i j = u at *
  generalize bm M k i i = v at *
  generalize bm M k j j = w at *
  have q1 : D * u = c + x * y := oM
  have q2 : D * v = a + x * x := oM
  have q3 : D * w = b + y * y := oM
  have q4 : (D * u) * (D * u) ≤ (D * v) * (D * w) := by
   rw [q1, q2, q3]
   have r1 : (c + x * y) * (c + x * y) = c * c + 2 * (c * (x * y)) + (x * x) * (y * y) := by grind
   have r2 : (a + x * x) * (b + y * y) = a * b + (a * (y * y) + b * (x * x)) + (x * x) * (y * y) := by grind
   rw [r1, r2]; omega
  have q5 : (D * u) * (D * u) = (D * D) * (u * u) := by grind
  have q6 : (D * v) * (D * w) = (D * D) * (v * w) := by grind
  rw [q5, q6] at q4
  exact Int.le_of_mul_le_mul_left q4 (Int.mul_pos hk1 hk1)
theorem nZ1 {M : Mx} {n r : Nat} (hs : Sym M) (hp : Pos n M) (hr : r < n) : 0 < M r r := by
 have := iZx hs hp hr r 0 oM
 rwa [cZv] at this
theorem M_le {M : Mx} {n i j : Nat} {Y : Int} (hs : Sym M) (hp : Pos n M) (hi : i < n) (hj : j < n) (hY : ∀ r, r < n → M r r ≤ Y) : -Y ≤ M i j ∧ M i j ≤ Y := by
 have key : ∀ {i j : Nat}, i < n → j < i → -Y ≤ M i j ∧ M i j ≤ Y := fun {i j} hi hj => by
  have h := bm_cs hs hp hi hj j 0 oM
  rw [cZv, cZv, cZv] at h
  have h1 := nZ1 hs hp hi
  have h2 := nZ1 hs hp (show j < n by omega)
  have h3 := hY i hi
  have h4 := hY j oM
  exact nZW oM (Int.le_trans h (Int.mul_le_mul h3 h4 oM oM))
 rcases Nat.lt_trichotomy i j with h | h | h
 ·rw [hs i j]; exact key hj h
 ·subst h
  have h1 := nZ1 hs hp hi
  have h3 := hY i hi
  omega
 ·exact key hi h
def full (M : Mx) (r : Nat) : Prop := ∀ l, l < r → szd M r l = true
def lovD (M : Mx) (i : Nat) : Bool := decide (3 * (det i M * det i M) ≤ 4 * (det (i - 1) M * det (i + 1) M + lam M i (i - 1) * lam M i (i - 1)))
def zc (M : Mx) (r : Nat) : Nat → Nat
 | 0 => 0
 | c + 1 => if szd M r c = true then zc M r c + 1 else 0
theorem jZh {M N : Mx} {r : Nat} : ∀ {c : Nat}, (∀ l, l < c → szd M r l = szd N r l) → zc M r c = zc N r c
 | 0, _ => rfl
 | c + 1, h => by rw [zc, zc, h c oM, jZh fun l hl => h l oM]
theorem zc_le {M : Mx} {r : Nat} : ∀ c, zc M r c ≤ c
 | 0 => Nat.le_refl 0
 | c + 1 => by rw [zc]; have := zc_le (M := M) (r := r) c; split <;> omega
theorem zc_at {M : Mx} {r j : Nat} (hz : szd M r j = false) : ∀ d, (∀ l, j < l → l < j + 1 + d → szd M r l = true) → zc M r (j + 1 + d) = d
 | 0, _ => by show zc M r (j + 1) = 0; rw [zc, if_neg (by rw [hz]; simp)]
 | d + 1, h => by show zc M r (j + 1 + d + 1) = d + 1; rw [zc, if_pos (h _ oM oM), zc_at hz d fun l h1 h2 => h l h1 oM]
theorem zc_ge {M : Mx} {r j : Nat} : ∀ d, (∀ l, j ≤ l → l < j + d → szd M r l = true) → d ≤ zc M r (j + d)
 | 0, _ => Nat.zero_le _
 | d + 1, h => by show d + 1 ≤ zc M r (j + d + 1); rw [zc, if_pos (h _ oM oM)]; have := zc_ge d fun l h1 h2 => h l h1 oM; omega
theorem lZy {M : Mx} {r l : Nat} {D : Int} (h : szd M r l = true) (_ : 0 < det (l + 1) M) (hD : det (l + 1) M ≤ D) : -D ≤ lam M r l ∧ lam M r l ≤ D := by
 unfold szd at h
 have := of_decide_eq_true h
 omega
structure J (n : Nat) (M : Mx) : Prop where
 sy : Sym M
 po : Pos n M
 dt : ∀ k, k ≤ n → det k M ≤ 268435456
 hi : ∀ r, r < n → (∃ r', r' < r ∧ (¬ full M r' ∨ (0 < r' ∧ lovD M r' = false))) → M r r ≤ 2147483648
 la : ∀ r l, r < n → l < r → -(17592186044416 * 1073741824 ^ zc M r r) ≤ lam M r l ∧ lam M r l ≤ 17592186044416 * 1073741824 ^ zc M r r
theorem q_pos (k : Nat) : (1 : Int) ≤ 1073741824 ^ k := by
 have : 0 < (1073741824 : Int) ^ k := Int.pow_pos oM
 omega
theorem pZX {a : Nat} : ∀ d, (1073741824 : Int) ^ a ≤ 1073741824 ^ (a + d)
 | 0 => Int.le_refl _
 | d + 1 => by
  have h := pZX (a := a) d
  have h1 := q_pos (a + d)
  rw [show a + (d + 1) = a + d + 1 from rfl, Int.pow_succ]
  generalize (1073741824 : Int) ^ (a + d) = z at *
  omega
theorem q_le {a b : Nat} (h : a ≤ b) : (1073741824 : Int) ^ a ≤ 1073741824 ^ b := by
 have := pZX (a := a) (b - a)
 rwa [show a + (b - a) = b by omega] at this
theorem hZV {n r : Nat} {M : Mx} (hs : Sym M) (hp : Pos n M) (hd : ∀ k, k ≤ n → det k M ≤ 268435456) (hn : n ≤ 8) (hr : r < n) (h : full M r) : M r r ≤ 2147483648 := by
 have h1 := s_up hs hp hr (B := 1) (D := 268435456) oM hd (fun k hk => by
  have h1 := hp (k + 1) oM
  obtain ⟨h2, h3⟩ := lZy (h k hk) h1 (Int.le_refl _)
  rw [Int.one_mul]
  exact kZ1 h2 h3) r 0 oM
 rw [cZv] at h1
 have h2 : det 0 M = 1 := rfl
 rw [h2] at h1
 have h3 : (r : Int) ≤ 7 := oM
 omega
theorem jZH {n r l : Nat} {M : Mx} (hs : Sym M) (hp : Pos n M) (hd : ∀ k, k ≤ n → det k M ≤ 268435456) (hr : r < n) (hl : l < r) (h : M r r ≤ 2147483648) : -17592186044416 ≤ lam M r l ∧ lam M r l ≤ 17592186044416 := by
 refine nZW oM (Int.le_trans (lam_sq hs hp hl hr) ?_)
 have h1 := hd l oM
 have h2 := hd (l + 1) oM
 have h3 := hp l oM
 have h4 := hp (l + 1) oM
 have h5 := nZ1 hs hp hr
 have h6 : det l M * M r r ≤ 268435456 * 2147483648 := Int.mul_le_mul h1 h oM oM
 have h7 : det (l + 1) M * (det l M * M r r) ≤ 268435456 * (268435456 * 2147483648) := Int.mul_le_mul h2 h6 (Int.le_of_lt (Int.mul_pos h3 h5)) oM
 omega
theorem lam_w {x : Int} (k : Nat) (h : -17592186044416 ≤ x ∧ x ≤ 17592186044416) : -(17592186044416 * 1073741824 ^ k) ≤ x ∧ x ≤ 17592186044416 * 1073741824 ^ k := by
 have h1 : (17592186044416 : Int) * 1 ≤ 17592186044416 * 1073741824 ^ k := Int.mul_le_mul_of_nonneg_left (q_pos k) oM
 omega
theorem J.start {n : Nat} {M : Mx} (hs : Sym M) (hp : Pos n M) (hn : n ≤ 7) (h : ∀ r, r < n → M r r ≤ 15) : J n M := by
 have hd : ∀ k, k ≤ n → det k M ≤ 15 ^ k := by
  intro k
  induction k with
  | zero => intro _; show (1 : Int) ≤ 1; omega
  | succ k ih =>
   intro hk
   have h1 := s_le hs hp (show k < n by omega) k (Nat.le_refl _)
   rw [cZc] at h1
   have h2 := ih oM
   have h3 := hp k oM
   have h4 : det k M * M k k ≤ 15 ^ k * 15 := Int.mul_le_mul h2 (h k oM) (Int.le_of_lt (nZ1 hs hp oM)) (Int.le_trans (Int.le_of_lt h3) h2)
   rw [Int.pow_succ]; omega
 have hd2 : ∀ k, k ≤ n → det k M ≤ 268435456 := fun k hk => by
  have h1 := hd k hk
  have h2 : (15 : Int) ^ k ≤ 15 ^ 7 := by
   have := Nat.pow_le_pow_right (show 0 < 15 by omega) (show k ≤ 7 by omega)
   exact_mod_cast this
  have h3 : (15 : Int) ^ 7 = 170859375 := by decide
  omega
 exact ⟨hs, hp, hd2, fun r hr _ => by have := h r hr; omega, fun r l hr hl => lam_w _ (jZH hs hp hd2 hr hl (by have := h r hr; omega))⟩
structure Near (x d q : Int) : Prop where
 lo : -d ≤ 2 * (x - q * d)
 hi : 2 * (x - q * d) ≤ d
 ql : -(x.natAbs : Int) - 1 ≤ q
 qh : q ≤ (x.natAbs : Int) + 1
theorem J.red {n i j : Nat} {M : Mx} {q : Int} (h : J n M) (hi : i < n) (hj : j < i) (hf : ∀ r, r < i → full M r) (hl : ∀ r, 0 < r → r < i → lovD M r = true) (hz : ∀ l, j < l → l < i → szd M i l = true) (hn : szd M i j = false) (hq : Near (lam M i j) (det (j + 1) M) q) : J n (opA M i j q) ∧ szd (opA M i j q) i j = true := by
 have hsz : szd (opA M i j q) i j = true := by
  unfold szd
  rw [lamA_at hj, detA hj]
  have h1 := hq.lo
  have h2 := hq.hi
  exact decide_eq_true ⟨oM, oM⟩
 have other : ∀ r l, r ≠ i → l < r → szd (opA M i j q) r l = szd M r l := fun r l hr hlr => szd_A hj (.inl ⟨hr, hlr⟩)
 have hmr : ∀ r, r ≠ i → opA M i j q r r = M r r := fun r hr => by unfold opA opC opR; rw [if_neg hr, if_neg hr]
 refine ⟨⟨h.sy.opA i j q, h.po.opA hj, fun k hk => by rw [detA hj]; exact h.dt k hk, fun r hr hex => ?_, fun r l hr hlr => ?_⟩, hsz⟩
 ·by_cases e : i < r
  ·rw [hmr r oM]
   exact h.hi r hr ⟨i, e, .inl fun hfu => by have := hfu j hj; rw [hn] at this; cases this⟩
  ·exfalso
   obtain ⟨r', h1, h2 | ⟨h2, h3⟩⟩ := hex
   ·exact h2 fun l hl' => by rw [other r' l oM hl']; exact hf r' oM l hl'
   ·have : lovD (opA M i j q) r' = lovD M r' := by
     unfold lovD
     rw [detA hj, detA hj, detA hj, iZF hj oM oM]
    rw [this, hl r' h2 oM] at h3
    cases h3
 ·by_cases e : r = i
  ·subst e
   have hzM : zc M r r = r - 1 - j := by
    have := zc_at hn (r - 1 - j) fun l h1 h2 => hz l h1 oM
    rwa [show j + 1 + (r - 1 - j) = r by omega] at this
   have hzA : r - j ≤ zc (opA M r j q) r r := by
    have := zc_ge (M := opA M r j q) (r := r) (j := j) (r - j) fun l h1 h2 => by
     by_cases e : l = j
     ·subst e; exact hsz
     ·rw [szd_A hj (.inr ⟨rfl, oM, oM⟩)]; exact hz l oM oM
    rwa [show j + (r - j) = r by omega] at this
   have hW : 17592186044416 * (1073741824 : Int) ^ zc M r r * 1073741824 ≤ 17592186044416 * 1073741824 ^ zc (opA M r j q) r r := by
    rw [Int.mul_assoc, ← Int.pow_succ]
    refine Int.mul_le_mul_of_nonneg_left ?_ oM
    exact q_le oM
   have hq1 := q_pos (zc M r r)
   have hlj := h.la r j hr hj
   have hla := fun l hlr => h.la r l hr hlr
   generalize 17592186044416 * (1073741824 : Int) ^ zc (opA M r j q) r r = Wd at *
   generalize (1073741824 : Int) ^ zc M r r = Wp at *
   obtain ⟨Wc, hWc⟩ : ∃ Wc, Wc = 17592186044416 * Wp := ⟨_, rfl⟩
   rw [← hWc] at hW hlj
   have hW1 : 17592186044416 ≤ Wc := oM
   rcases Nat.lt_trichotomy l j with e2 | e2 | e2
   ·rw [lamA_lt hj e2]
    have h1 := hla l hlr
    rw [← hWc] at h1
    have h2 := lZy (hf j hj l e2) (h.po (l + 1) oM) (h.dt (l + 1) oM)
    have h3 := hq.ql
    have h4 := hq.qh
    have h5 : -(Wc + 1) ≤ q ∧ q ≤ Wc + 1 := oM
    have h6 : -((Wc + 1) * 268435456) ≤ q * lam M j l ∧ q * lam M j l ≤ (Wc + 1) * 268435456 := by
     have h7 : (q * lam M j l) * (q * lam M j l) ≤ ((Wc + 1) * 268435456) * ((Wc + 1) * 268435456) := by
      have a1 := kZ1 h5.1 h5.2
      have a2 := kZ1 h2.1 h2.2
      have a3 : q * q * (lam M j l * lam M j l) ≤ (Wc + 1) * (Wc + 1) * (268435456 * 268435456) := Int.mul_le_mul a1 a2 (gZ1 _) (Int.mul_nonneg oM oM)
      have a4 : (q * lam M j l) * (q * lam M j l) = q * q * (lam M j l * lam M j l) := by grind
      have a5 : ((Wc + 1) * 268435456) * ((Wc + 1) * 268435456) = (Wc + 1) * (Wc + 1) * (268435456 * 268435456) := by grind
      rw [a4, a5]; exact a3
     exact nZW oM h7
    omega
   ·subst e2
    have h1 := lZy hsz (by rw [detA hj]; exact h.po (l + 1) oM) (by rw [detA hj]; exact h.dt (l + 1) oM)
    omega
   ·rw [mZB hj hlr e2]
    have h1 := hla l hlr
    rw [← hWc] at h1
    omega
  ·rw [iZF hj hlr e, jZh (M := opA M i j q) (N := M) fun l hl' => other r l e hl']
   exact h.la r l hr hlr
theorem J.norms {n i : Nat} {M : Mx} (h : J n M) (hn : n ≤ 8) (hi0 : 0 < i) (_ : i < n) (hf : ∀ r, r ≤ i → full M r) (hl : lovD M i = false) : ∀ r, r < n → M r r ≤ 2147483648 := fun r hr => by
 by_cases e : r ≤ i
 ·exact hZV h.sy h.po h.dt hn hr (hf r e)
 ·exact h.hi r hr ⟨i, oM, .inr ⟨hi0, hl⟩⟩
theorem qZr {M : Mx} {i : Nat} (hl : lovD M (i + 1) = false) : 4 * (det i M * det (i + 2) M + lam M (i + 1) i * lam M (i + 1) i) < 3 * (det (i + 1) M * det (i + 1) M) := by
 unfold lovD at hl
 have := of_decide_eq_false hl
 simp only [Nat.add_sub_cancel] at this
 exact Int.not_le.1 this
theorem J.swp {n i : Nat} {M : Mx} (h : J n M) (hn : n ≤ 8) (hi : i + 1 < n) (hf : ∀ r, r ≤ i + 1 → full M r) (hl : lovD M (i + 1) = false) : J n (sw M i) := by
 have hN := h.norms hn oM hi hf hl
 have hs := h.sy.sw i
 have hp := h.po.sw h.sy hi
 have hd : ∀ k, k ≤ n → det k (sw M i) ≤ 268435456 := fun k hk => by
  by_cases e : k = i + 1
  ·subst e
   have := lov_dec h.sy h.po hi (qZr hl)
   have := h.dt (i + 1) hk
   omega
  ·rw [kZn e]; exact h.dt k hk
 have hN' : ∀ r, r < n → sw M i r r ≤ 2147483648 := fun r hr => hN _ (by unfold tp; split <;> (try split) <;> omega)
 exact ⟨hs, hp, hd, fun r hr _ => hN' r hr, fun r l hr hlr => lam_w _ (jZH hs hp hd hr hlr (hN' r hr))⟩
def Wb : Int := 17592186044416 * 1073741824 ^ 8
theorem J.lam {n : Nat} {M : Mx} (h : J n M) (hn : n ≤ 8) {r l : Nat} (hr : r < n) (hl : l < r) : -Wb ≤ lam M r l ∧ lam M r l ≤ Wb := by
 have h1 := h.la r l hr hl
 have h2 : 17592186044416 * (1073741824 : Int) ^ zc M r r ≤ Wb := by
  unfold Wb
  refine Int.mul_le_mul_of_nonneg_left ?_ oM
  exact q_le (by have := zc_le (M := M) (r := r) r; omega)
 exact ⟨Int.le_trans (Int.neg_le_neg h2) h1.1, Int.le_trans h1.2 h2⟩
def Eb : Int := 268435456 + 8 * ((Wb * Wb) * 268435456)
theorem J.norm {n : Nat} {M : Mx} (h : J n M) (hn : n ≤ 8) {r : Nat} (hr : r < n) : M r r ≤ Eb := by
 have hW : 0 ≤ Wb * Wb := gZ1 _
 have h1 := s_up h.sy h.po hr (B := Wb * Wb) (D := 268435456) hW h.dt (fun k hk => by
  have h1 := h.lam hn hr hk
  have h2 := h.po (k + 1) oM
  have h3 : (1 : Int) * 1 ≤ det (k + 1) M * det (k + 1) M := Int.mul_le_mul oM oM oM oM
  have h4 := kZ1 h1.1 h1.2
  have h5 : Wb * Wb * 1 ≤ Wb * Wb * (det (k + 1) M * det (k + 1) M) := Int.mul_le_mul_of_nonneg_left oM hW
  omega) r 0 oM
 rw [cZv, show det 0 M = 1 from rfl, Int.mul_one] at h1
 unfold Eb
 have h2 : (r : Int) * (Wb * Wb * 268435456) ≤ 8 * (Wb * Wb * 268435456) := Int.mul_le_mul_of_nonneg_right oM (Int.mul_nonneg hW oM)
 omega
theorem J.ent {n : Nat} {M : Mx} (h : J n M) (hn : n ≤ 8) {i j : Nat} (hi : i < n) (hj : j < n) : -Eb ≤ M i j ∧ M i j ≤ Eb := M_le h.sy h.po hi hj fun _ hr => h.norm hn hr
theorem Eb_lt : Eb.natAbs < 4294967296 ^ 19 := by decide
theorem Wb_lt : Wb.natAbs + 1 < 4294967296 ^ 10 := by decide
theorem pZY {M N : Mx} {i a b : Nat} : ∀ {n : Nat}, (∀ k, k ≤ n → k ≠ i + 1 → det k M = det k N) → i + 1 ≤ n → a * (det (i + 1) M).toNat ≤ b * (det (i + 1) N).toNat → a * phi M n ≤ b * phi N n
 | 0, _, hi, _ => oM
 | n + 1, h, hi, hlt => by
  show a * (phi M n * _) ≤ b * (phi N n * _)
  by_cases e : n = i
  ·subst e
   rw [dZo (M := M) (N := N) (fun k hk => h k oM oM)]
   rw [Nat.mul_left_comm, Nat.mul_left_comm b]
   exact Nat.mul_le_mul_left _ hlt
  ·rw [h (n + 1) (Nat.le_refl _) oM, ← Nat.mul_assoc, ← Nat.mul_assoc]
   exact Nat.mul_le_mul_right _ (pZY (fun k hk => h k oM) oM hlt)
theorem phi_sw {M : Mx} {n i : Nat} (hs : Sym M) (hp : Pos n M) (hi : i + 1 < n) (hl : lovD M (i + 1) = false) : 4 * phi (sw M i) n ≤ 3 * phi M n := by
 refine pZY (fun k _ e => kZn e) oM ?_
 have e := cZN hs hp (k := i) (r := i + 1) oM hi
 rw [cZc, show i + 1 + 1 = i + 2 from rfl] at e
 have hlt := qZr hl
 have h1 := (hp.sw hs hi) (i + 1) oM
 rw [fZ8] at h1 ⊢
 have hd := hp (i + 1) oM
 have h2 : det (i + 1) M * (4 * bm M i (i + 1) (i + 1)) < det (i + 1) M * (3 * det (i + 1) M) := by
  have a1 : det (i + 1) M * (4 * bm M i (i + 1) (i + 1)) = 4 * (det (i + 1) M * bm M i (i + 1) (i + 1)) := by grind
  have a2 : det (i + 1) M * (3 * det (i + 1) M) = 3 * (det (i + 1) M * det (i + 1) M) := by grind
  have a3 : det (i + 2) M * det i M = det i M * det (i + 2) M := Int.mul_comm _ _
  rw [a1, a2]
  omega
 have h3 := Int.lt_of_mul_lt_mul_left h2 (Int.le_of_lt hd)
 omega
theorem few {S P x y : Nat} (h : 4 ^ S * x ≤ 3 ^ S * y) (hx : 1 ≤ x) (hy : y ≤ 2 ^ P) : S ≤ 3 * P + 2 := by
 have key : ∀ a, 3 ^ (3 * a) * 2 ^ a ≤ 4 ^ (3 * a) := fun a => by
  rw [Nat.pow_mul, Nat.pow_mul, ← Nat.mul_pow]
  exact Nat.pow_le_pow_left aD a
 by_cases hS : S ≤ 3 * P + 2
 ·exact hS
 ·exfalso
  obtain ⟨b, rfl⟩ : ∃ b, S = 3 * (P + 1) + b := ⟨S - 3 * (P + 1), oM⟩
  have h1 := key (P + 1)
  have h2 : 3 ^ b ≤ 4 ^ b := Nat.pow_le_pow_left oM b
  have h3 : 3 ^ (3 * (P + 1)) * 2 ^ (P + 1) * 3 ^ b ≤ 4 ^ (3 * (P + 1)) * 4 ^ b := Nat.mul_le_mul h1 h2
  rw [Nat.pow_add, Nat.pow_add 3] at h
  have h4 : 4 ^ (3 * (P + 1)) * 4 ^ b * 1 ≤ 4 ^ (3 * (P + 1)) * 4 ^ b * x := Nat.mul_le_mul_left _ hx
  have h5 : 3 ^ (3 * (P + 1)) * 3 ^ b * y ≤ 3 ^ (3 * (P + 1)) * 3 ^ b * 2 ^ P := Nat.mul_le_mul_left _ hy
  have h6 : 3 ^ (3 * (P + 1)) * 2 ^ (P + 1) * 3 ^ b = 2 * (3 ^ (3 * (P + 1)) * 3 ^ b * 2 ^ P) := by rw [Nat.pow_succ 2]; grind
  have h7 : 0 < 3 ^ (3 * (P + 1)) * 3 ^ b * 2 ^ P := Nat.mul_pos (Nat.mul_pos (Nat.pow_pos oM) (Nat.pow_pos oM)) (Nat.pow_pos oM)
  omega
theorem lZZ {M : Mx} {n : Nat} (hp : Pos n M) (hd : ∀ k, k ≤ n → det k M ≤ 268435456) : ∀ k, k ≤ n → phi M k ≤ 2 ^ (28 * k)
 | 0, _ => Nat.le_refl 1
 | k + 1, hk => by
  show phi M k * _ ≤ _
  have h1 := lZZ hp hd k oM
  have h2 := hd (k + 1) hk
  rw [Nat.mul_succ, Nat.pow_add]
  exact Nat.mul_le_mul h1 oM
theorem fpl_A {M : Mx} {n i j : Nat} {q : Int} (hj : j < i) (hi : i < n) (h1 : ∀ y ∈ cZe i j, szd M y.1 y.2 = true) (h2 : szd M i j = false) (h3 : szd (opA M i j q) i j = true) : fpl M n < fpl (opA M i j q) n := by
 have h := msr_A (q := q) hj hi h1 h2 h3
 unfold msr at h
 rw [dZo (M := opA M i j q) (N := M) fun k _ => detA hj k] at h
 have := tw_le (p := fun x : Nat × Nat => szd M x.1 x.2) (plc n)
 have : fpl M n ≤ (plc n).length := this
 omega
theorem qZ1 (M : Mx) (n : Nat) : fpl M n ≤ (plc n).length := tw_le (p := fun x : Nat × Nat => szd M x.1 x.2) (plc n)
theorem lZX : ∀ n, n ≤ 8 → (plc n).length ≤ 28 := by
 intro n hn
 have : ∀ n, (plc (n + 1)).length = (plc n).length + n := fun n => by show (plc n ++ prow n).length = _; rw [List.length_append]; unfold prow; simp
 match n, hn with
 | 0, _ => decide
 | 1, _ => decide
 | 2, _ => decide
 | 3, _ => decide
 | 4, _ => decide
 | 5, _ => decide
 | 6, _ => decide
 | 7, _ => decide
 | 8, _ => decide
end Go.Proofs.YtfmjdlogjmofbaaGreatDoor.Det
namespace Go.Proofs.YtfmjdlogjmofbaaGreatDoor
open Go.RowKit Limb Det
theorem kZH {x y : Int} (hy : 0 < y) : (Rat.divInt x y).num / ((Rat.divInt x y).den : Int) = x / y := by
 have hd : (0 : Int) < ((Rat.divInt x y).den : Int) := by have := (Rat.divInt x y).den_pos; omega
 have e : (Rat.divInt x y).num * y = x * ((Rat.divInt x y).den : Int) := by
  have h := (Rat.divInt_eq_divInt_iff (n₁ := (Rat.divInt x y).num) (d₁ := (Rat.divInt x y).den) (n₂ := x) (d₂ := y) oM oM).1 (Rat.num_divInt_den _)
  exact h
 generalize (Rat.divInt x y).num = a at *
 generalize ((Rat.divInt x y).den : Int) = d at *
 have key : ∀ q : Int, q ≤ a / d ↔ q ≤ x / y := fun q => by
  rw [Int.le_ediv_iff_mul_le hd, Int.le_ediv_iff_mul_le hy]
  constructor
  ·intro h
   have h1 : q * d * y ≤ a * y := Int.mul_le_mul_of_nonneg_right h (Int.le_of_lt hy)
   rw [e, Int.mul_right_comm] at h1
   exact Int.le_of_mul_le_mul_right h1 hd
  ·intro h
   have h1 : q * y * d ≤ x * d := Int.mul_le_mul_of_nonneg_right h (Int.le_of_lt hd)
   rw [← e, Int.mul_right_comm] at h1
   exact Int.le_of_mul_le_mul_right h1 hy
 have h1 := (key (a / d)).1 (Int.le_refl _)
 have h2 := (key (x / y)).2 (Int.le_refl _)
 omega
theorem nrZ_eq {a b : Int} (hb : 0 < b) : nrZ a b = (2 * a + b) / (2 * b) := by
 have e : nrs a b = Rat.divInt (a * 2 + 1 * b) (b * 2) := Rat.divInt_add_divInt a 1 oM oM
 unfold nrZ
 rw [e, kZH oM, Int.mul_comm a, Int.one_mul, Int.mul_comm b]
theorem jZI {x d : Int} (hd : 0 < d) : Near x d (nrZ x d) := by
 rw [nrZ_eq hd]
 have h1 := Int.ediv_mul_le (2 * x + d) (show 2 * d ≠ 0 by omega)
 have h2 := Int.lt_ediv_add_one_mul_self (2 * x + d) (show 0 < 2 * d by omega)
 generalize (2 * x + d) / (2 * d) = q at *
 have e1 : q * (2 * d) = 2 * (q * d) := by grind
 have e2 : (q + 1) * (2 * d) = 2 * (q * d) + 2 * d := by grind
 rw [e1] at h1
 rw [e2] at h2
 have l1 : q * d = q + q * (d - 1) := by grind
 refine ⟨oM, oM, ?_, ?_⟩
 ·by_cases g : -(x.natAbs : Int) - 1 ≤ q
  ·exact g
  ·exfalso
   have h3 : q * (d - 1) ≤ (-(x.natAbs : Int) - 1) * (d - 1) := Int.mul_le_mul_of_nonneg_right oM oM
   have h4 : (-(x.natAbs : Int) - 1) * (d - 1) ≤ (-1) * (d - 1) := Int.mul_le_mul_of_nonneg_right oM oM
   omega
 ·by_cases g : q ≤ (x.natAbs : Int) + 1
  ·exact g
  ·exfalso
   have h3 : ((x.natAbs : Int) + 1) * (d - 1) ≤ q * (d - 1) := Int.mul_le_mul_of_nonneg_right oM oM
   have h4 : 1 * (d - 1) ≤ ((x.natAbs : Int) + 1) * (d - 1) := Int.mul_le_mul_of_nonneg_right oM oM
   omega
theorem eZP {g : Nat → Int} {k : Int} {r j : Nat} : ∀ n, sumZ (fun a => (idM a r + k * idM a j) * g a) n = (if r < n then g r else 0) + k * (if j < n then g j else 0)
 | 0 => by rw [if_neg oM, if_neg oM, sumZ]; omega
 | n + 1 => by
  rw [sumZ, eZP n]
  unfold idM
  by_cases h1 : n = r
  ·subst h1
   by_cases h2 : n = j
   ·subst h2
    simp only [Nat.lt_irrefl, Nat.lt_succ_self, if_true, if_false]
    grind
   ·by_cases h3 : j < n
    ·rw [if_neg oM, if_pos h3, if_pos rfl, if_neg h2, if_pos oM, if_pos oM]; grind
    ·rw [if_neg oM, if_neg h3, if_pos rfl, if_neg h2, if_pos oM, if_neg oM]; grind
  ·rw [if_neg h1]
   have e1 : (r < n + 1) ↔ (r < n) := oM
   by_cases h2 : n = j
   ·subst h2
    simp only [e1, Nat.lt_irrefl, Nat.lt_succ_self, if_true, if_false]
    grind
   ·have e2 : (j < n + 1) ↔ (j < n) := oM
    rw [if_neg h2]
    simp only [e1, e2]
    grind
theorem lZ4 {g : Nat → Int} {r n : Nat} (hr : r < n) : sumZ (fun a => idM a r * g a) n = g r := by
 have h := eZP (g := g) (k := 0) (r := r) (j := r) n
 rw [if_pos hr, Int.zero_mul, Int.add_zero] at h
 rw [← h]
 exact cZq fun a _ => by rw [Int.zero_mul, Int.add_zero]
theorem jZ4 {A : Nat → Nat → Int} {i j : Nat} (hj : j < i) (a r : Nat) : redT A i j a r = idM a r + (if r = i then -(nrZ (lam A i j) (det (j + 1) A)) else 0) * idM a j := by
 unfold redT upm
 by_cases h1 : r = i
 ·rw [if_pos h1]
  by_cases h2 : a = j
  ·rw [if_pos ⟨h2, h1⟩]; unfold idM; rw [if_neg oM, if_pos h2]; grind
  ·rw [if_neg (by grind)]; unfold idM; rw [if_neg h2]; grind
 ·rw [if_neg h1, if_neg (by grind)]; grind
theorem lZR {A : Nat → Nat → Int} {n i j : Nat} (hj : j < i) (hi : i < n) : ∀ r c, r < n → c < n → mulM (mulM (trM (redT A i j)) A n) (redT A i j) n r c = opA A i j (nrZ (lam A i j) (det (j + 1) A)) r c := fun r c hr hc => by
 have hjn : j < n := oM
 have e1 : ∀ r a, r < n → mulM (trM (redT A i j)) A n r a = A r a + (if r = i then -(nrZ (lam A i j) (det (j + 1) A)) else 0) * A j a := fun r a hr => by
  unfold mulM trM
  rw [cZq (g := fun b => (idM b r + (if r = i then -(nrZ (lam A i j) (det (j + 1) A)) else 0) * idM b j) * A b a) fun b _ => by rw [jZ4 hj], eZP, if_pos hr, if_pos hjn]
 rw [mulM, cZq (g := fun b => (idM b c + (if c = i then -(nrZ (lam A i j) (det (j + 1) A)) else 0) * idM b j) * mulM (trM (redT A i j)) A n r b) fun b _ => by rw [jZ4 hj, Int.mul_comm], eZP, if_pos hc, if_pos hjn, e1 r c hr, e1 r j hr]
 generalize nrZ (lam A i j) (det (j + 1) A) = q
 unfold opA opC opR
 by_cases h1 : r = i
 ·subst h1
  by_cases h2 : c = r
  ·subst h2; simp only [if_true]; grind
  ·simp only [if_true, if_neg h2]; grind
 ·by_cases h2 : c = i
  ·subst h2; simp only [if_true, if_neg h1]; grind
  ·simp only [if_neg h1, if_neg h2]; grind
theorem lZ2 {i : Nat} (hi : 0 < i) (r : Nat) : swpP i r = tp (i - 1) r := by unfold swpP tp; split <;> (try split) <;> (try split) <;> omega
theorem lZ3 {i n r : Nat} (hi : i < n) (hr : r < n) : swpP i r < n := by unfold swpP; split <;> (try split) <;> omega
theorem jZm {i : Nat} (hi : 0 < i) (a r : Nat) : swpT i a r = idM a (swpP i r) := by
 unfold swpT idM
 have e : (swpP i a = r) ↔ (a = swpP i r) := by unfold swpP; grind
 simp only [e]
theorem lZ1 {A : Nat → Nat → Int} {n i : Nat} (hi0 : 0 < i) (hi : i < n) : ∀ r c, r < n → c < n → mulM (mulM (trM (swpT i)) A n) (swpT i) n r c = sw A (i - 1) r c := fun r c hr hc => by
 have e1 : ∀ r a, r < n → mulM (trM (swpT i)) A n r a = A (swpP i r) a := fun r a hr => by
  unfold mulM trM
  rw [cZq (g := fun b => idM b (swpP i r) * A b a) fun b _ => by rw [jZm hi0], lZ4 (lZ3 hi hr)]
 rw [mulM, cZq (g := fun b => idM b (swpP i c) * mulM (trM (swpT i)) A n r b) fun b _ => by rw [jZm hi0, Int.mul_comm], lZ4 (lZ3 hi hc), e1 r _ hr]
 unfold sw
 rw [lZ2 hi0, lZ2 hi0]
theorem hZ0 {A : Nat → Nat → Int} {i : Nat} : ∀ {c : Nat}, rowR A i c = Option.none → ∀ l, l < c → szd A i l = true
 | 0, _, l, h => oM
 | c + 1, h, l, hl => by
  rw [rowR] at h
  by_cases hs : szd A i c = true
  ·rw [if_pos hs] at h
   by_cases e : l = c
   ·subst e; exact hs
   ·exact hZ0 h l oM
  ·rw [if_neg hs] at h; cases h
theorem hZz {A : Nat → Nat → Int} {i j : Nat} : ∀ {c : Nat}, rowR A i c = some j → j < c ∧ szd A i j = false ∧ ∀ l, j < l → l < c → szd A i l = true
 | 0, h => by cases h
 | c + 1, h => by
  rw [rowR] at h
  by_cases hs : szd A i c = true
  ·rw [if_pos hs] at h
   obtain ⟨h1, h2, h3⟩ := hZz h
   exact ⟨oM, h2, fun l g1 g2 => by
    by_cases e : l = c
    ·subst e; exact hs
    ·exact h3 l g1 oM⟩
  ·rw [if_neg hs] at h
   cases h
   exact ⟨oM, by simpa using hs, fun l g1 g2 => oM⟩
def okR (A : Nat → Nat → Int) (r : Nat) : Prop := full A r ∧ (0 < r → lovD A r = true)
def jZb (A : Nat → Nat → Int) (n : Nat) : Sr → Prop
 | .none => ∀ r, r < n → okR A r
 | .red i j => i < n ∧ j < i ∧ szd A i j = false ∧ (∀ l, j < l → l < i → szd A i l = true) ∧ ∀ r, r < i → okR A r
 | .swp i => 0 < i ∧ i < n ∧ full A i ∧ lovD A i = false ∧ ∀ r, r < i → okR A r
theorem eZ6 {A : Nat → Nat → Int} {n : Nat} : ∀ {c : Nat}, c ≤ n → (∀ r, r < n - c → okR A r) → jZb A n (allR A n c)
 | 0, _, h => h
 | c + 1, hc, h => by
  rw [allR]
  cases hr : rowR A (n - (c + 1)) (n - (c + 1)) with
  | some j =>
   obtain ⟨h1, h2, h3⟩ := hZz hr
   exact ⟨oM, h1, h2, h3, h⟩
  | none =>
   have hf : full A (n - (c + 1)) := hZ0 hr
   dsimp only
   by_cases hl : 0 < n - (c + 1) ∧ lovB A (n - (c + 1)) = false
   ·rw [if_pos hl]
    exact ⟨hl.1, oM, hf, hl.2, h⟩
   ·rw [if_neg hl]
    refine eZ6 oM fun r hr' => ?_
    by_cases e : r < n - (c + 1)
    ·exact h r e
    ·have e : r = n - (c + 1) := oM
     subst e
     refine ⟨hf, fun h0 => ?_⟩
     cases hb : lovB A (n - (c + 1)) with
     | true => exact hb
     | false => exact absurd ⟨h0, hb⟩ hl
def iZ9 (A : Nat → Nat → Int) : Sr → Nat → Nat → Int
 | .none => A
 | .red i j => opA A i j (nrZ (lam A i j) (det (j + 1) A))
 | .swp i => sw A (i - 1)
def stepT (A : Nat → Nat → Int) : Sr → Nat → Nat → Int
 | .none => idM
 | .red i j => redT A i j
 | .swp i => swpT i
def cZd (n : Nat) : Nat → (Nat → Nat → Int) → (Nat → Nat → Int) → (Nat → Nat → Int) × (Nat → Nat → Int)
 | 0, H, T => (H, T)
 | k + 1, H, T => match allR H n n with
  | .none => (H, T)
  | s => cZd n k (iZ9 H s) (mulM T (stepT H s) n)
structure Rv (n : Nat) (A H T : Nat → Nat → Int) (S k : Nat) : Prop where
 n7 : n ≤ 7
 j : J n H
 dn : det n H = det n A
 ph : 4 ^ S * phi H n ≤ 3 ^ S * phi A n
 pa : phi A n ≤ 2 ^ 196
 tz : ZL T n n (2 + 18 * (29 * S + fpl H n))
 ku : 20000 ≤ k + (29 * S + fpl H n)
theorem Rv.few {n : Nat} {A H T : Nat → Nat → Int} {S k : Nat} (h : Rv n A H T S k) : 29 * S + fpl H n ≤ 17138 := by
 have h1 := Det.few h.ph (mZa h.j.po) h.pa
 have h2 := qZ1 H n
 have h3 := lZX n (by have := h.n7; omega)
 omega
theorem nZM (a b : Nat) : zl (idM a b) ≤ 2 := by unfold idM; split <;> decide
theorem Rv.zlH {n : Nat} {A H T : Nat → Nat → Int} {S k : Nat} (h : Rv n A H T S k) : ZL H n n 20 := fun i j hi hj => by
 obtain ⟨h1, h2⟩ := h.j.ent (by have := h.n7; omega) hi hj
 exact Nat.le_trans (dZ8 (b := Eb) oM) (Nat.le_trans (aZw (k := 19) (by rw [aZv]; exact Eb_lt)) oM)
theorem zl_nr {n i j : Nat} {H : Nat → Nat → Int} (h : J n H) (hn : n ≤ 8) (hi : i < n) (hj : j < i) : zl (-(nrZ (lam H i j) (det (j + 1) H))) ≤ 10 := by
 have h1 := jZI (x := lam H i j) (h.po (j + 1) oM)
 have h2 := h.lam hn hi hj
 have h3 := h1.ql
 have h4 := h1.qh
 have h5 := Wb_lt
 refine aZw (k := 10) ?_
 rw [aZv]
 refine Nat.lt_of_le_of_lt ?_ Wb_lt
 generalize nrZ (lam H i j) (det (j + 1) H) = q at *
 generalize lam H i j = x at *
 have : 0 ≤ Wb := by decide
 omega
theorem Rv.stepT {n : Nat} {A H T : Nat → Nat → Int} {S k : Nat} (h : Rv n A H T S k) {s : Sr} (hs : jZb H n s) : ZL (Go.Proofs.YtfmjdlogjmofbaaGreatDoor.stepT H s) n n 10 := fun a b ha hb => by
 cases s with
 | none => exact Nat.le_trans (nZM a b) oM
 | red i j =>
  show zl (redT H i j a b) ≤ 10
  unfold redT upm
  split
  ·exact zl_nr h.j (by have := h.n7; omega) hs.1 hs.2.1
  ·exact Nat.le_trans (nZM a b) oM
 | swp i => exact Nat.le_trans (nZM _ b) oM
theorem lZg {T U : Nat → Nat → Int} {n b : Nat} (hn : n ≤ 8) (hT : ZL T n n b) (hU : ZL U n n 10) : ZL (mulM T U n) n n (b + 18) := fun i j hi hj => by
 have := jZe (f := fun c => T i c * U c j) (K := b + 10) (n := n) fun c hc => by
  have h1 := bZh (T i c) (U c j)
  have h2 := hT i c hi hc
  have h3 := hU c j hc hj
  omega
 unfold mulM
 omega
theorem Rv.red {n i j : Nat} {A H T : Nat → Nat → Int} {S k : Nat} (h : Rv n A H T S (k + 1)) (hs : jZb H n (.red i j)) : Rv n A (iZ9 H (.red i j)) (mulM T (Go.Proofs.YtfmjdlogjmofbaaGreatDoor.stepT H (.red i j)) n) S k := by
 have hU := h.stepT hs
 obtain ⟨hi, hj, hz, hl, hr⟩ := hs
 have hn7 := h.n7
 obtain ⟨j1, j2⟩ := h.j.red hi hj (fun r h1 => (hr r h1).1) (fun r h1 h2 => (hr r h2).2 h1) hl hz (jZI (h.j.po (j + 1) oM))
 have hf := fpl_A (q := nrZ (lam H i j) (det (j + 1) H)) hj hi (fun y hy => by
  unfold cZe at hy
  rcases List.mem_append.1 hy with hy | hy
  ·obtain ⟨h1, h2⟩ := iZ8 hy
   exact (hr y.1 h2).1 y.2 h1
  ·obtain ⟨t, ht, rfl⟩ := List.mem_map.1 hy
   have ht := List.mem_range.1 ht
   exact hl _ oM oM) hz j2
 have e := detA (M := H) (q := nrZ (lam H i j) (det (j + 1) H)) hj
 refine ⟨hn7, j1, by show det n (opA H i j _) = _; rw [e, h.dn], by show 4 ^ S * phi (opA H i j _) n ≤ _; rw [dZo fun k _ => e k]; exact h.ph, h.pa, ?_, ?_⟩
 ·intro a b ha hb
  exact Nat.le_trans (lZg oM h.tz hU a b ha hb) (by show _ ≤ 2 + 18 * (29 * S + fpl (opA H i j _) n); omega)
 ·show 20000 ≤ k + (29 * S + fpl (opA H i j _) n)
  have := h.ku
  omega
theorem Rv.swp {n i : Nat} {A H T : Nat → Nat → Int} {S k : Nat} (h : Rv n A H T S (k + 1)) (hs : jZb H n (.swp i)) : Rv n A (iZ9 H (.swp i)) (mulM T (Go.Proofs.YtfmjdlogjmofbaaGreatDoor.stepT H (.swp i)) n) (S + 1) k := by
 have hU := h.stepT hs
 obtain ⟨hi0, hi, hf, hl, hr⟩ := hs
 have hn7 := h.n7
 obtain ⟨m, rfl⟩ : ∃ m, i = m + 1 := ⟨i - 1, oM⟩
 have hf' : ∀ r, r ≤ m + 1 → full H r := fun r h1 => by
  by_cases e : r = m + 1
  ·subst e; exact hf
  ·exact (hr r oM).1
 have j1 := h.j.swp oM hi hf' hl
 have p1 := phi_sw h.j.sy h.j.po hi hl
 have f1 := qZ1 H n
 have f2 := lZX n oM
 refine ⟨hn7, j1, by show det n (sw H m) = _; rw [kZn oM, h.dn], ?_, h.pa, ?_, ?_⟩
 ·show 4 ^ (S + 1) * phi (sw H m) n ≤ _
  rw [Nat.pow_succ, Nat.pow_succ]
  have g1 : 4 ^ S * (4 * phi (sw H m) n) ≤ 4 ^ S * (3 * phi H n) := Nat.mul_le_mul_left _ p1
  have g2 := h.ph
  have g3 : 4 ^ S * 4 * phi (sw H m) n = 4 ^ S * (4 * phi (sw H m) n) := Nat.mul_assoc ..
  have g4 : 4 ^ S * (3 * phi H n) = 3 * (4 ^ S * phi H n) := Nat.mul_left_comm ..
  have g5 : 3 ^ S * 3 * phi A n = 3 * (3 ^ S * phi A n) := by rw [Nat.mul_comm (3 ^ S) 3, Nat.mul_assoc]
  rw [g3, g5]
  omega
 ·intro a b ha hb
  exact Nat.le_trans (lZg oM h.tz hU a b ha hb) oM
 ·have := h.ku
  omega
structure Red (n : Nat) (A H : Nat → Nat → Int) : Prop where
 sy : Sym H
 po : Pos n H
 dn : det n H = det n A
 en : ∀ i j, i < n → j < n → -2147483648 ≤ H i j ∧ H i j ≤ 2147483648
theorem Rv.done {n : Nat} {A H T : Nat → Nat → Int} {S k : Nat} (h : Rv n A H T S k) (hs : jZb H n .none) : Red n A H :=
 ⟨h.j.sy, h.j.po, h.dn, fun i j hi hj => M_le h.j.sy h.j.po hi hj fun r hr => hZV h.j.sy h.j.po h.j.dt (by have := h.n7; omega) hr (hs r hr).1⟩
theorem eZr {n : Nat} {A : Nat → Nat → Int} : ∀ {k : Nat} {H T : Nat → Nat → Int} {S : Nat}, Rv n A H T S k → Red n A (cZd n k H T).1
 | 0, H, T, S, h => by have h1 := h.ku; have h2 := h.few; omega
 | k + 1, H, T, S, h => by
  have hf : jZb H n (allR H n n) := eZ6 (Nat.le_refl n) fun r hr => oM
  rw [cZd]
  generalize allR H n n = s at *
  cases s with
  | none => exact h.done hf
  | red i j => exact eZr (h.red hf)
  | swp i => exact eZr (h.swp hf)
theorem Rv.start {n : Nat} {A : Nat → Nat → Int} (hn : n ≤ 7) (hs : Sym A) (hp : Pos n A) (h : ∀ r, r < n → A r r ≤ 15) : Rv n A A idM 0 20000 :=
 have hj := J.start hs hp hn h
 ⟨hn, hj, rfl, Nat.le_refl (1 * phi A n), Nat.le_trans (lZZ hp hj.dt n (Nat.le_refl n)) (Nat.pow_le_pow_right oM oM), fun a b _ _ => Nat.le_trans (nZM a b) oM, oM⟩
end Go.Proofs.YtfmjdlogjmofbaaGreatDoor

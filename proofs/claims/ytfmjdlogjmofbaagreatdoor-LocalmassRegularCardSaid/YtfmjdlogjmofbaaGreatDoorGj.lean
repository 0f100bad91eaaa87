/- The measure of LLL. Plain. -/
import Derived.Test.YtfmjdlogjmofbaaGreatDoorLat
import Derived.Test.YtfmjdlogjmofbaaGreatDoorMem
import Derived.Test.YtfmjdlogjmofbaaGreatDoorW
set_option maxRecDepth 3000
namespace Go.Proofs.YtfmjdlogjmofbaaGreatDoor.Det
theorem lov_dec {M : Mx} {n i : Nat} (hs : Sym M) (hp : Pos n M) (hi : i + 1 < n) (hl : 4 * (det i M * det (i + 2) M + lam M (i + 1) i * lam M (i + 1) i) < 3 * (det (i + 1) M * det (i + 1) M)) : det (i + 1) (sw M i) < det (i + 1) M := by
 have e := cZN hs hp (k := i) (r := i + 1) oM hi
 rw [cZc, show i + 1 + 1 = i + 2 from rfl] at e
 rw [fZ8]
 have hd := hp (i + 1) oM
 refine Int.lt_of_mul_lt_mul_left (a := det (i + 1) M) ?_ oM
 have h1 := gZ1 (det (i + 1) M)
 have h2 : det (i + 2) M * det i M = det i M * det (i + 2) M := Int.mul_comm _ _
 have h3 := Int.mul_pos hd hd
 omega
theorem Pos.sw {M : Mx} {n i : Nat} (hs : Sym M) (hp : Pos n M) (hi : i + 1 < n) : Pos n (sw M i) := fun k hk => by
 by_cases e : k = i + 1
 ·subst e; rw [fZ8]; exact iZx hs hp hi 1 i rfl
 ·rw [kZn e]; exact hp k hk
theorem Pos.opA {M : Mx} {n i j : Nat} {q : Int} (hp : Pos n M) (hj : j < i) : Pos n (opA M i j q) := fun k hk => by rw [detA hj]; exact hp k hk
def phi (M : Mx) : Nat → Nat
 | 0 => 1
 | k + 1 => phi M k * (det (k + 1) M).toNat
theorem dZo {M N : Mx} : ∀ {n : Nat}, (∀ k, k ≤ n → det k M = det k N) → phi M n = phi N n
 | 0, _ => rfl
 | n + 1, h => by show phi M n * _ = phi N n * _; rw [dZo (fun k hk => h k oM), h (n + 1) (Nat.le_refl _)]
theorem mZa {M : Mx} : ∀ {n : Nat}, Pos n M → 0 < phi M n
 | 0, _ => by show 0 < 1; omega
 | n + 1, h => Nat.mul_pos (mZa (fun k hk => h k oM)) (by have := h (n + 1) (Nat.le_refl _); omega)
def szd (M : Mx) (i j : Nat) : Bool := decide (2 * lam M i j ≤ det (j + 1) M ∧ -(det (j + 1) M) ≤ 2 * lam M i j)
def prow (i : Nat) : List (Nat × Nat) := (List.range i).reverse.map (fun j => (i, j))
def plc : Nat → List (Nat × Nat)
 | 0 => []
 | n + 1 => plc n ++ prow n
def fpl (M : Mx) (n : Nat) : Nat := ((plc n).takeWhile (fun x => szd M x.1 x.2)).length
theorem jZi {α : Type} {p : α → Bool} : ∀ {A B : List α} {x : α}, (∀ y ∈ A, p y = true) → p x = false → ((A ++ x :: B).takeWhile p).length = A.length
 | [], B, x, _, h => by simp [h]
 | a :: A, B, x, h1, h2 => by
  have e := jZi (p := p) (A := A) (B := B) (fun y hy => h1 y (List.mem_cons_of_mem _ hy)) h2
  simp only [List.cons_append, List.takeWhile, h1 a List.mem_cons_self, List.length_cons, e]
theorem lZr {α : Type} {p : α → Bool} : ∀ {A B : List α}, (∀ y ∈ A, p y = true) → A.length ≤ ((A ++ B).takeWhile p).length
 | [], B, _ => by simp
 | a :: A, B, h1 => by
  have e := lZr (p := p) (A := A) (B := B) (fun y hy => h1 y (List.mem_cons_of_mem _ hy))
  simp only [List.cons_append, List.takeWhile, h1 a List.mem_cons_self, List.length_cons]
  omega
theorem tw_le {α : Type} {p : α → Bool} : ∀ (A : List α), (A.takeWhile p).length ≤ A.length
 | [] => by simp
 | a :: A => by
  have e := tw_le (p := p) A
  simp only [List.takeWhile]
  split <;> simp <;> omega
def cZe (i j : Nat) : List (Nat × Nat) := plc i ++ ((List.range (i - 1 - j)).map (fun t => (i, i - 1 - t)))
theorem iZ8 : ∀ {n : Nat} {x : Nat × Nat}, x ∈ plc n → x.2 < x.1 ∧ x.1 < n
 | 0, _, h => by simp [plc] at h
 | n + 1, x, h => by
  rcases List.mem_append.1 h with h | h
  ·have := iZ8 h; omega
  ·simp only [prow, List.mem_map, List.mem_reverse, List.mem_range] at h
   obtain ⟨a, ha, rfl⟩ := h
   exact ⟨ha, by show n < n + 1; omega⟩
theorem kZJ {i j : Nat} (h : j < i) : ∃ B, prow i = ((List.range (i - 1 - j)).map (fun t => (i, i - 1 - t))) ++ (i, j) :: B := by
 have e : (List.range i).reverse = (List.range i).map (fun t => i - 1 - t) := by
  apply List.ext_getElem
  ·simp
  ·intro k h1 h2; simp
 have e2 : List.range i = List.range (i - 1 - j) ++ (i - 1 - j) :: (List.range j).map (fun t => i - j + t) := by
  apply List.ext_getElem
  ·simp; omega
  ·intro k h1 h2
   simp only [List.getElem_range, List.getElem_append, List.length_range, List.getElem_cons, List.getElem_map]
   split
   ·rfl
   ·split <;> omega
 refine ⟨((List.range j).map (fun t => i - j + t)).map (fun t => (i, i - 1 - t)), ?_⟩
 unfold prow
 rw [e, e2]
 simp only [List.map_append, List.map_cons, List.map_map]
 rw [show i - 1 - (i - 1 - j) = j by omega]
 rfl
theorem hZ8 {i j : Nat} (hj : j < i) : ∀ {n : Nat}, i < n → ∃ B, plc n = cZe i j ++ (i, j) :: B
 | 0, h => oM
 | n + 1, h => by
  by_cases e : n = i
  ·subst e
   obtain ⟨B, hB⟩ := kZJ hj
   exact ⟨B, by show plc n ++ prow n = _; rw [hB]; unfold cZe; rw [List.append_assoc]⟩
  ·obtain ⟨B, hB⟩ := hZ8 hj (n := n) oM
   exact ⟨B ++ prow n, by show plc n ++ prow n = _; rw [hB, List.append_assoc]; rfl⟩
theorem szd_A {M : Mx} {i j r l : Nat} {q : Int} (hj : j < i) (h : (r ≠ i ∧ l < r) ∨ (r = i ∧ j < l ∧ l < i)) : szd (opA M i j q) r l = szd M r l := by
 unfold szd
 rw [detA hj]
 rcases h with ⟨h1, h2⟩ | ⟨h1, h2, h3⟩
 ·rw [iZF hj h2 h1]
 ·subst h1; rw [mZB hj h3 h2]
def msr (M : Mx) (n : Nat) : Nat := phi M n * ((plc n).length + 1) + ((plc n).length - fpl M n)
theorem msr_A {M : Mx} {n i j : Nat} {q : Int} (hj : j < i) (hi : i < n) (h1 : ∀ y ∈ cZe i j, szd M y.1 y.2 = true) (h2 : szd M i j = false) (h3 : szd (opA M i j q) i j = true) : msr (opA M i j q) n < msr M n := by
 obtain ⟨B, hB⟩ := hZ8 hj hi
 have e1 : fpl M n = (cZe i j).length := by
  have g := jZi (p := fun x : Nat × Nat => szd M x.1 x.2) (A := cZe i j) (B := B) (x := (i, j)) h1 h2
  unfold fpl; rw [hB, g]
 have e2 : (cZe i j).length + 1 ≤ fpl (opA M i j q) n := by
  have := lZr (p := fun x => szd (opA M i j q) x.1 x.2) (A := cZe i j ++ [(i, j)]) (B := B) (fun y hy => by
   rcases List.mem_append.1 hy with hy | hy
   ·rw [szd_A hj (by
     rcases List.mem_append.1 hy with hy | hy
     ·have := iZ8 hy
      omega
     ·simp only [List.mem_map, List.mem_range] at hy
      obtain ⟨t, ht, rfl⟩ := hy
      exact .inr ⟨rfl, by show j < i - 1 - t; omega, by show i - 1 - t < i; omega⟩)]
    exact h1 y hy
   ·simp at hy; subst hy; exact h3)
  unfold fpl; rw [hB]
  simpa using this
 have e3 : (cZe i j).length + 1 ≤ (plc n).length := by rw [hB]; simp
 have e4 : phi (opA M i j q) n = phi M n := dZo fun k _ => detA hj k
 unfold msr
 rw [e4, e1]
 generalize phi M n * _ = a
 generalize fpl _ _ = b at *
 generalize (plc n).length = d at *
 generalize (cZe i j).length = c at *
 clear hB h1 h2 h3 e1 e4
 omega
end Go.Proofs.YtfmjdlogjmofbaaGreatDoor.Det
namespace Go.Proofs.YtfmjdlogjmofbaaGreatDoor
open Go.RowKit Limb Det
instance cbody114 : CBody Tryz.prog 114 := ⟨⟨_, Tryz.func114, rfl, by rfl⟩⟩
instance cbody115 : CBody Tryz.prog 115 := ⟨⟨_, Tryz.func115, rfl, by rfl⟩⟩
instance cbody111 : CBody Tryz.prog 111 := ⟨⟨_, Tryz.func111, rfl, by rfl⟩⟩
instance cbody116 : CBody Tryz.prog 116 := ⟨⟨_, Tryz.func116, rfl, by rfl⟩⟩
instance cbody47 : CBody Tryz.prog 47 := ⟨⟨_, Tryz.func47, rfl, by rfl⟩⟩
instance cbody50 : CBody Tryz.prog 50 := ⟨⟨_, Tryz.func50, rfl, by rfl⟩⟩
instance cbody112 : CBody Tryz.prog 112 := ⟨⟨_, Tryz.func112, rfl, by rfl⟩⟩
instance cbody156 : CBody Tryz.prog 156 := ⟨⟨_, Tryz.func156, rfl, by rfl⟩⟩
instance cbody158 : CBody Tryz.prog 158 := ⟨⟨_, Tryz.func158, rfl, by rfl⟩⟩
instance cbody113 : CBody Tryz.prog 113 := ⟨⟨_, Tryz.func113, rfl, by rfl⟩⟩
theorem qZx (r : Nat → Nat) (k more : Nat) : cZK r k ++ [ex (.int .i64 ((more : Nat) : Int))] = cZK (fun a => if a < k then r a else more) (k + 1) := by
 have e1 : cZK r k = cZK (fun a => if a < k then r a else more) k := aZu fun a ha => by dsimp only; rw [if_pos ha]
 have e2 : ((if k < k then r k else more : Nat) : Int) = ((more : Nat) : Int) := by rw [if_neg (Nat.lt_irrefl k)]
 show cZK r k ++ _ = cZK (fun a => if a < k then r a else more) k ++ [ex (.int .i64 ((if k < k then r k else more : Nat) : Int))]
 rw [← e1, e2]
theorem kZt (x y : Int) : decide (cmpZ x y ≤ 0) = decide (x ≤ y) := by
 unfold cmpZ
 by_cases h : x < y
 ·rw [if_pos h, decide_eq_true (p := x ≤ y) oM]; rfl
 ·rw [if_neg h]
  by_cases h2 : y < x
  ·rw [if_pos h2, decide_eq_false (p := x ≤ y) oM]; rfl
  ·rw [if_neg h2, decide_eq_true (p := x ≤ y) oM]; rfl
theorem cmpZ_ge (x y : Int) : decide (cmpZ x y ≥ 0) = decide (y ≤ x) := by
 unfold cmpZ
 by_cases h : x < y
 ·rw [if_pos h, decide_eq_false (p := y ≤ x) oM]; rfl
 ·rw [if_neg h]
  by_cases h2 : y < x
  ·rw [if_pos h2, decide_eq_true (p := y ≤ x) oM]; rfl
  ·rw [if_neg h2, decide_eq_true (p := y ≤ x) oM]; rfl
section
variable (En : Ev)
theorem lZh {A : Nat → Nat → Int} {n K i j : Nat} (hn : n ≤ 8) (hA : ZL A n n K) (hi : i < n) (hj : j < n) : zl (lam A i j) ≤ 9 * K + 82 := zl_bm hn hA oM hi hj
set_option maxHeartbeats 1000000 in
theorem iZA (A : Nat → Nat → Int) (n i j K : Nat) (hn8 : n ≤ 8) (hi : i < n) (hj : j < n) (hK : K ≤ 1000000) (hA : ZL A n n K) : Fn Tryz.prog En 114 [zmt A n n, ex (.int .i64 (i : Int)), ex (.int .i64 (j : Int))] (zC (lam A i j)) := by
 have C1 := mZt En A n n (j + 1) (j + 1) (fstN j i) (fstN j j) oM oM (fun a ha => by unfold fstN; split <;> omega) (fun a ha => by unfold fstN; split <;> omega)
 have C2 : Fn Tryz.prog En 21 [zmt (fun a b => A (fstN j i a) (fstN j j b)) (j + 1) (j + 1)] (zC (lam A i j)) := mdet En (fun a b => A (fstN j i a) (fstN j j b)) (j + 1) K oM oM hK fun a b ha hb => hA _ _ (by unfold fstN; split <;> omega) (by unfold fstN; split <;> omega)
 refine aZb Tryz.func114 rfl Tryz.ntmps114 rfl ?_
 intro w0 h0
 refine js<|jr<|jA jj jj jj<|jn<|js<|jr<|ja jj<|ja jj<|jn<|js<|js<|jr<|ja jj<|jn<|jb ?_
 refine WpD.loop (α := {k : Nat // k ≤ j}) (fun k => ⟨[(0, .one (zmt A n n)), (1, .one (ex (.int .i64 (i : Int)))), (2, .one (ex (.int .i64 (j : Int)))), (6, .ptr 6 0), (7, .app 507 1 k.1), (8, .app 508 1 k.1), (9, .one (ex (.int .i64 (k.1 : Int))))], [(507, cZK (fun a => a) k.1), (757, []), (508, cZK (fun a => a) k.1), (758, []), (6, [ex (.bool false), ex (.slice none 0 0)])]⟩) (fun k => j - k.1) ⟨0, Nat.zero_le _⟩ ?_ ?_
 ·dsimp only
  exact Sub.mk sJ ⟨.inr jj, .inr jj, .inr jj, .inr jj, .inl pQ, trivial⟩
 rintro ⟨k, hk⟩
 dsimp only
 by_cases hkj : k < j
 ·refine js<|js<|jr<|jm jj<|jm jj<|jS (bLt jj jj)<|jn<|jt jj<|jp<|js<|jb<|js<|jr<|jm jj<|jm jj<|jS (aZ5 (ps := [(_, _)]) ⟨jj, Part.c jj, trivial⟩ jj jj jj)<|RG.SW (LT.plain jj (aZD 518 jj jj ((bZI _ _)) jj oM oM jj jj jj jj jj jj)) jj<|ja jj<|jn<|jr<|jm jj<|jm jj<|jS (aZ5 (ps := [(_, _)]) ⟨jj, Part.c jj, trivial⟩ jj jj jj)<|RG.SW (LT.plain jj (aZD 522 jj jj ((bZI _ _)) jj oM oM jj jj jj jj jj jj)) jj<|ja jj<|jn<|jr<|jm jj<|jS (bAd jj jj wO)<|ja jj<|jn ?_
  refine ⟨⟨k + 1, oM⟩, ?_, oD⟩
  dsimp only
  refine Sub.trans (τ := ⟨[(0, .one (zmt A n n)), (1, .one (ex (.int .i64 (i : Int)))), (2, .one (ex (.int .i64 (j : Int)))), (6, .ptr 6 0), (7, .app 507 1 (k + 1)), (8, .app 522 1 (k + 1)), (9, .one (ex (.int .i64 ((k + 1 : Nat) : Int))))], [(507, cZK (fun a => a) (k + 1)), (757, []), (522, cZK (fun a => a) (k + 1)), (772, []), (6, [ex (.bool false), ex (.slice none 0 0)])]⟩) ?_ ?_
  ·refine Sub.ren 507 518 rfl ?_ ?_ rfl
   ·repeat (first | exact trivial | refine ⟨.inl ⟨pK, trivial, trivial⟩, ?_⟩ | refine ⟨.inr ⟨_, _, rfl, .inl rfl, ⟨Option.some_ne_none _, Option.some_ne_none _⟩⟩, ?_⟩ | refine ⟨.inl ⟨⟨_, rfl, rfl⟩, Option.some_ne_none _, ⟨aD, aD⟩⟩, ?_⟩ | refine ⟨.inl ⟨⟨_, rfl, rfl⟩, ⟨Option.some_ne_none _, Option.some_ne_none _⟩, ⟨aD, aD, aD, aD⟩⟩, ?_⟩ | refine ⟨.inl ⟨⟨_, rfl, rfl⟩, cZo (Option.some_ne_none _) (Option.some_ne_none _), bZK aD aD aD aD⟩, ?_⟩ | refine ⟨.inr ⟨_, _, rfl, .inr ⟨oM, rfl⟩, Option.some_ne_none _⟩, ?_⟩)
   ·repeat (first | exact trivial | refine ⟨.inr ⟨aD, .inr rfl⟩, ?_⟩ | refine ⟨.inl ⟨rfl, _, rfl, PsLe.refl _⟩, ?_⟩ | refine ⟨.inr ⟨aD, .inl ⟨aD, _, rfl, PsLe.refl _⟩⟩, ?_⟩)
  ·refine Sub.ren 508 522 rfl ?_ ?_ rfl
   ·repeat (first | exact trivial | refine ⟨.inl ⟨pK, trivial, trivial⟩, ?_⟩ | refine ⟨.inr ⟨_, _, rfl, .inl rfl, ⟨Option.some_ne_none _, Option.some_ne_none _⟩⟩, ?_⟩ | refine ⟨.inl ⟨⟨_, rfl, rfl⟩, Option.some_ne_none _, ⟨aD, aD⟩⟩, ?_⟩ | refine ⟨.inl ⟨⟨_, rfl, rfl⟩, ⟨Option.some_ne_none _, Option.some_ne_none _⟩, ⟨aD, aD, aD, aD⟩⟩, ?_⟩ | refine ⟨.inl ⟨⟨_, rfl, rfl⟩, cZo (Option.some_ne_none _) (Option.some_ne_none _), bZK aD aD aD aD⟩, ?_⟩ | refine ⟨.inr ⟨_, _, rfl, .inr ⟨oM, rfl⟩, Option.some_ne_none _⟩, ?_⟩)
   ·repeat (first | exact trivial | refine ⟨.inr ⟨aD, .inr rfl⟩, ?_⟩ | refine ⟨.inl ⟨rfl, _, rfl, PsLe.refl _⟩, ?_⟩ | refine ⟨.inr ⟨aD, .inl ⟨aD, _, rfl, PsLe.refl _⟩⟩, ?_⟩)
 ·have e : k = j := oM
  subst e
  refine js<|js<|jr<|jm jj<|jm jj<|jS (bLf jj jj)<|jn<|jf jj<|je<|js ?_
  refine WpD.seqR ?_
  show WpS _ _ _ _ _ _ _ [0, 1, 2, 3, 4, 5, 6, 7, 8, 9, 10, 11] _ _
  refine WpS.S rfl rfl (dZD rfl) rfl ?_
  refine WpS.S rfl rfl (dZD rfl) rfl ?_
  refine WpS.S rfl rfl (dZD rfl) rfl ?_
  refine WpS.S rfl rfl (aZ5 (ps := [(_, _)]) ⟨rfl, Part.c rfl, trivial⟩ rfl rfl rfl) rfl ?_
  refine WpS.S rfl rfl (aZD 527 rfl rfl (bZI _ _) rfl oM oM rfl rfl rfl rfl rfl (qZx _ _ _)) rfl ?_
  refine WpS.S rfl rfl (dZD rfl) rfl ?_
  refine WpS.S rfl rfl (dZD rfl) rfl ?_
  refine WpS.S rfl rfl (aZ5 (ps := [(_, _)]) ⟨rfl, Part.c rfl, trivial⟩ rfl rfl rfl) rfl ?_
  refine WpS.S rfl rfl (aZD 531 rfl rfl (bZI _ _) rfl oM oM rfl rfl rfl rfl rfl (qZx _ _ _)) rfl ?_
  refine WpS.sub (τ := ⟨[(6, .ptr 6 0), (23, .one (zmt A n n)), (27, .one (isl (fstN k i) (k + 1))), (31, .app 531 1 (k + 1))], [(531, cZK (fstN k k) (k + 1)), (781, []), (6, [ex (.bool false), ex (.slice none 0 0)])]⟩) ?_ ?_
  ·refine Sub.pub 527 rfl rfl ⟨.inl ⟨⟨_, rfl, rfl⟩, js0 rfl⟩, .inl ⟨pK, trivial⟩, .inr (.inr (.inl ⟨1, k + 1, _, rfl, rfl, bZI _ _, PLe.refl _⟩)), .inl ⟨⟨_, rfl, rfl⟩, js0 rfl, js0 rfl⟩, trivial⟩ ⟨.inl pQ, .inr rfl, .inl pQ, trivial⟩ rfl
  refine WpS.sub (τ := ⟨[(6, .ptr 6 0), (23, .one (zmt A n n)), (27, .one (isl (fstN k i) (k + 1))), (31, .one (isl (fstN k k) (k + 1)))], [(6, [ex (.bool false), ex (.slice none 0 0)])]⟩) ?_ ?_
  ·refine Sub.pub 531 rfl rfl ⟨.inl ⟨⟨_, rfl, rfl⟩, js0 rfl⟩, .inl ⟨pK, trivial⟩, .inl ⟨pK, trivial⟩, .inr (.inr (.inl ⟨1, k + 1, _, rfl, rfl, bZI _ _, PLe.refl _⟩)), trivial⟩ ⟨.inl pQ, trivial⟩ rfl
  refine WpS.S rfl rfl (aZa C1 ⟨rfl, rfl, rfl, trivial⟩) rfl ?_
  refine WpS.S rfl rfl (aZa C2 ⟨rfl, trivial⟩) rfl ?_
  refine WpS.N rfl (hZs rfl rfl rfl rfl rfl rfl) rfl ?_
  refine WpS.nil ?_
  refine kO ?_
  refine WpD.ret ?_
  exact rtC rfl jj jj
theorem hZG (A : Nat → Nat → Int) (n k : Nat) (hn8 : n ≤ 8) (hk : k ≤ n) : Fn Tryz.prog En 115 [zsl (fun k => det (k + 1) A) n, ex (.int .i64 (k : Int))] (zC (det k A)) := by
 cases k with
 | zero =>
  have C1 := cZ5 En 1 oM oM
  refine aZb Tryz.func115 rfl Tryz.ntmps115 rfl ?_
  intro w0 h0
  refine js<|jr<|jA jj jj jj<|jn<|js<|js<|jr<|jm jj<|jS (bEt jj jj)<|jn<|jt jj<|js<|jr<|jS (aZa C1 tA)<|jP jj jj jj jj<|jn<|ji ?_
  exact rtC rfl jj jj
 | succ k =>
  have e1 : IntKind.i64.wrap (((k + 1 : Nat) : Int) - 1) = (k : Int) := by rw [w64 oM oM]; omega
  have hk' : k < n := oM
  refine aZb Tryz.func115 rfl Tryz.ntmps115 rfl ?_
  intro w0 h0
  refine js<|jr<|jA jj jj jj<|jn<|js<|js<|jr<|jm jj<|jS (bEf jj jj)<|jn<|jf jj<|jp<|js<|jr<|jm jj<|jm jj<|jS (bSu jj jj e1)<|jS (bZm jj jj aO (fun _ _ => jj))<|jS (aZq jj jj jj)<|jP jj jj jj jj<|jn<|ji ?_
  exact rtC rfl jj jj
theorem szd_eq (A : Nat → Nat → Int) (i j : Nat) : decide (cmpZ (2 * ((lam A i j).natAbs : Int)) (det (j + 1) A) ≤ 0) = szd A i j := by
 rw [show decide (cmpZ (2 * ((lam A i j).natAbs : Int)) (det (j + 1) A) ≤ 0) = decide (2 * ((lam A i j).natAbs : Int) ≤ det (j + 1) A) from kZt _ _]
 unfold szd
 by_cases h : 2 * ((lam A i j).natAbs : Int) ≤ det (j + 1) A
 ·rw [decide_eq_true h, decide_eq_true oM]
 ·rw [decide_eq_false h, decide_eq_false oM]
theorem msized (A : Nat → Nat → Int) (n i j K : Nat) (hn8 : n ≤ 8) (hi : i < n) (hj : j < i) (hK : K ≤ 1000000) (hA : ZL A n n K) : Fn Tryz.prog En 111 [zmt A n n, zsl (fun k => det (k + 1) A) n, ex (.int .i64 (i : Int)), ex (.int .i64 (j : Int))] (ex (.bool (szd A i j))) := by
 have z1 := lZh hn8 hA hi (show j < n by omega)
 have z2 : zl ((lam A i j).natAbs : Int) ≤ 9 * K + 82 := by rw [show zl ((lam A i j).natAbs : Int) = zl (lam A i j) by unfold zl; rw [Int.natAbs_natCast]]; exact z1
 have z3 := bZh 2 ((lam A i j).natAbs : Int)
 have z4 : zl 2 ≤ 2 := bZa oM oM
 have z5 : zl (det (j + 1) A) ≤ 9 * K + 82 := dZf oM fun a b ha hb => hA a b oM oM
 have C1 := cZ5 En 2 oM oM
 have C2 := iZA En A n i j K hn8 hi oM hK hA
 have C3 := cabs En (lam A i j) (Nat.le_trans z1 oM)
 have C4 := cmul En 2 ((lam A i j).natAbs : Int) oM oM
 have C5 := hZG En A n (j + 1) hn8 oM
 have C6 := ccmp En (2 * ((lam A i j).natAbs : Int)) (det (j + 1) A) oM oM
 refine aZb Tryz.func111 rfl Tryz.ntmps111 rfl ?_
 intro w0 h0
 refine js<|jr<|ja jj<|jn<|js<|jr<|jS (aZa C1 tA)<|jm jj<|jm jj<|jm jj<|jS (aZa C2 tC)<|jS (aZa C3 tA)<|jS (aZa C4 tB)<|jm jj<|jm jj<|jS (bAd jj jj wO)<|jS (aZa C5 tB)<|jS (aZa C6 tB)<|jS (bVe jj jj (szd_eq A i j))<|ja jj<|jn<|ji ?_
 exact rtT rfl jj
def lovB (A : Nat → Nat → Int) (i : Nat) : Bool := decide (3 * (det i A * det i A) ≤ 4 * (det (i - 1) A * det (i + 1) A + lam A i (i - 1) * lam A i (i - 1)))
theorem mlovasz (A : Nat → Nat → Int) (n i K : Nat) (hn8 : n ≤ 8) (hi : i < n) (hi1 : 1 ≤ i) (hK : K ≤ 1000000) (hA : ZL A n n K) : Fn Tryz.prog En 116 [zmt A n n, zsl (fun k => det (k + 1) A) n, ex (.int .i64 (i : Int))] (ex (.bool (lovB A i))) := by
 have z1 := lZh hn8 hA hi (show i - 1 < n by omega)
 have zd : ∀ k, k ≤ n → zl (det k A) ≤ 9 * K + 82 := fun k hk => dZf oM fun a b ha hb => hA a b oM oM
 have d0 := zd (i - 1) oM
 have d1 := zd i oM
 have d2 := zd (i + 1) oM
 have m1 := bZh (det (i - 1) A) (det (i + 1) A)
 have m2 := bZh (lam A i (i - 1)) (lam A i (i - 1))
 have m3 := eZ8 (det (i - 1) A * det (i + 1) A) (lam A i (i - 1) * lam A i (i - 1))
 have z4 : zl 4 ≤ 2 := bZa oM oM
 have z3 : zl 3 ≤ 2 := bZa oM oM
 have m4 := bZh 4 (det (i - 1) A * det (i + 1) A + lam A i (i - 1) * lam A i (i - 1))
 have m5 := bZh (det i A) (det i A)
 have m6 := bZh 3 (det i A * det i A)
 have C1 := iZA En A n i (i - 1) K hn8 hi oM hK hA
 have C2 := cZ5 En 4 oM oM
 have C3 := hZG En A n (i - 1) hn8 oM
 have C4 := hZG En A n (i + 1) hn8 oM
 have C5 := cmul En (det (i - 1) A) (det (i + 1) A) oM oM
 have C6 := cmul En (lam A i (i - 1)) (lam A i (i - 1)) oM oM
 have C7 := cadd En (det (i - 1) A * det (i + 1) A) (lam A i (i - 1) * lam A i (i - 1)) (by show zl _ ≤ _; omega) (by show zl _ ≤ _; omega)
 have C8 := cmul En 4 (det (i - 1) A * det (i + 1) A + lam A i (i - 1) * lam A i (i - 1)) oM oM
 have C9 := cZ5 En 3 oM oM
 have Ca := hZG En A n i hn8 oM
 have Cb := cmul En (det i A) (det i A) oM oM
 have Cc := cmul En 3 (det i A * det i A) oM oM
 have Cd := ccmp En (4 * (det (i - 1) A * det (i + 1) A + lam A i (i - 1) * lam A i (i - 1))) (3 * (det i A * det i A)) oM oM
 have e1 : IntKind.i64.wrap ((i : Int) - 1) = ((i - 1 : Nat) : Int) := by rw [w64 oM oM]; omega
 have e2 : IntKind.i64.wrap ((i : Int) + 1) = ((i + 1 : Nat) : Int) := by rw [w64 oM oM]; omega
 refine aZb Tryz.func116 rfl Tryz.ntmps116 rfl ?_
 intro w0 h0
 refine js<|jr<|ja jj<|jn<|js<|jr<|jm jj<|jm jj<|jm jj<|jS (bSu jj jj e1)<|jS (aZa C1 ⟨jj, jj, jj, trivial⟩)<|jA jj jj jj<|jP jj jj jj jj<|jn<|js<|jr<|jS (aZa C2 ⟨jj, trivial⟩)<|jm jj<|jm jj<|jS (bSu jj jj e1)<|jS (aZa C3 ⟨jj, jj, trivial⟩)<|jm jj<|jm jj<|jS (bAd jj jj e2)<|jS (aZa C4 ⟨jj, jj, trivial⟩)<|jS (aZa C5 ⟨jj, jj, trivial⟩)<|jL jj jj jj<|jL jj jj jj<|jS (aZa C6 ⟨jj, jj, trivial⟩)<|jS (aZa C7 ⟨jj, jj, trivial⟩)<|jS (aZa C8 ⟨jj, jj, trivial⟩)<|jA jj jj jj<|jP jj jj jj jj<|jn<|js<|jr<|jL jj jj jj<|jS (aZa C9 ⟨jj, trivial⟩)<|jm jj<|jm jj<|jS (aZa Ca ⟨jj, jj, trivial⟩)<|jm jj<|jm jj<|jS (aZa Ca ⟨jj, jj, trivial⟩)<|jS (aZa Cb ⟨jj, jj, trivial⟩)<|jS (aZa Cc ⟨jj, jj, trivial⟩)<|jS (aZa Cd ⟨jj, jj, trivial⟩)<|jS (bVh jj jj (cmpZ_ge _ _))<|ja jj<|jn ?_
 refine ji ?_
 exact rtT rfl jj
theorem msmall (A : Nat → Nat → Int) (n K : Nat) (hn : 1 ≤ n) (hn8 : n ≤ 8) (hK : K ≤ 1000000) (hA : ZL A n n K) : Fn Tryz.prog En 47 [zmt A n n] (ex (.bool (decide (det n A ≤ 10000)))) := by
 have C1 := mdet En A n K hn hn8 hK hA
 have C2 := cZ5 En 10000 oM oM
 have z1 : zl (det n A) ≤ 9 * K + 82 := dZf oM hA
 have z2 : zl 10000 ≤ 2 := bZa oM oM
 have C3 := ccmp En (det n A) 10000 oM oM
 refine aZb Tryz.func47 rfl Tryz.ntmps47 rfl ?_
 intro w0 h0
 refine js<|jr<|ja jj<|jn<|js<|jr<|jm jj<|jS (aZa C1 tA)<|jS (aZa C2 tA)<|jS (aZa C3 tB)<|jS (bVe jj jj (kZt _ _))<|ja jj<|jn<|ji ?_
 exact rtT rfl jj
end
end Go.Proofs.YtfmjdlogjmofbaaGreatDoor

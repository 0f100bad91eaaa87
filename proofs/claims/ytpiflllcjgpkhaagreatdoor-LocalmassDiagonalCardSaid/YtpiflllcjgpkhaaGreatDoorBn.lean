/- Bernoulli numbers: plain, and the program's and the reference's lists. -/
import Derived.Test.YtpiflllcjgpkhaaGreatDoorSa
set_option maxRecDepth 3000
namespace Go.Proofs.YtpiflllcjgpkhaaGreatDoor
open Go.RowKit Limb
instance cbody68 : CBody Tryz.prog 68 := ⟨⟨_, Tryz.func68, rfl, by rfl⟩⟩
instance cbody67 : CBody Tryz.prog 67 := ⟨⟨_, Tryz.func67, rfl, by rfl⟩⟩
/-! Contracts for canonical numbers. -/
section
variable (En : Ev)
theorem krsub (a b : Rat) (ha : Sz 1073741824 a) (hb : Sz 1073741824 b) : Fn Tryz.prog En 65 [qC a, qC b] (qC (a - b)) := by
  have := rsub En (RQ.of a) (RQ.of b) (RQ.of_ok ha) (RQ.of_ok hb)
  rwa [RQ.of_v, RQ.of_v] at this
theorem krmul (a b : Rat) (ha : Sz 1073741824 a) (hb : Sz 1073741824 b) : Fn Tryz.prog En 35 [qC a, qC b] (qC (a * b)) := by
  have := rmul En (RQ.of a) (RQ.of b) (RQ.of_ok ha) (RQ.of_ok hb)
  rwa [RQ.of_v, RQ.of_v] at this
theorem krquo (a b : Rat) (ha : Sz 1073741824 a) (hb : Sz 1073741824 b) (h : b ≠ 0) : Fn Tryz.prog En 39 [qC a, qC b] (tupP [qC (a / b), ex (.bool true)]) := by
  have := rquo En (RQ.of a) (RQ.of b) (RQ.of_ok ha) (RQ.of_ok hb) (by rw [RQ.of_v]; exact h)
  rwa [RQ.of_v, RQ.of_v] at this
theorem krneg (a : Rat) (ha : Sz 1073741824 a) : Fn Tryz.prog En 97 [qC a] (qC (-a)) := by
  have := rneg En (RQ.of a) (RQ.of_ok ha)
  rwa [RQ.of_v] at this
theorem krpow (a : Rat) (n : Nat) (ha : Sz 1073741824 a) (hn : n ≤ 64) : Fn Tryz.prog En 33 [qC a, ex (.int .i64 (n : Int))] (tupP [qC (a ^ n), ex (.bool true)]) := by
  have := rpow En (RQ.of a) n (RQ.of_ok ha) hn
  rwa [RQ.of_v] at this
theorem krpow_neg (a : Rat) (n : Nat) (ha : Sz 1073741824 a) (hn : n ≤ 64) (hn0 : 0 < n) (h : a ≠ 0) : Fn Tryz.prog En 33 [qC a, ex (.int .i64 (-(n : Int)))] (tupP [qC (a⁻¹ ^ n), ex (.bool true)]) := by
  have := rpow_neg En (RQ.of a) n (RQ.of_ok ha) hn hn0 (by rw [RQ.of_v]; exact h)
  rwa [RQ.of_v] at this
theorem kqadd (a b : Rat) (ha : Sz 134217728 a) (hb : Sz 134217728 b) : Fn Tryz.prog En 100 [qC a, qC b] (qC (a + b)) := by
  have := qadd En (RQ.of a) (RQ.of b) (RQ.of_okR ha) (RQ.of_okR hb)
  rwa [RQ.of_v, RQ.of_v] at this
theorem kqsub (a b : Rat) (ha : Sz 134217728 a) (hb : Sz 134217728 b) : Fn Tryz.prog En 69 [qC a, qC b] (qC (a - b)) := by
  have := qsub En (RQ.of a) (RQ.of b) (RQ.of_okR ha) (RQ.of_okR hb)
  rwa [RQ.of_v, RQ.of_v] at this
theorem kqmul (a b : Rat) (ha : Sz 134217728 a) (hb : Sz 134217728 b) : Fn Tryz.prog En 71 [qC a, qC b] (qC (a * b)) := by
  have := qmul En (RQ.of a) (RQ.of b) (RQ.of_okR ha) (RQ.of_okR hb)
  rwa [RQ.of_v, RQ.of_v] at this
theorem kqquo (a b : Rat) (ha : Sz 134217728 a) (hb : Sz 134217728 b) (h : b ≠ 0) : Fn Tryz.prog En 99 [qC a, qC b] (tupP [qC (a / b), ex (.bool true)]) := by
  have := qquo En (RQ.of a) (RQ.of b) (RQ.of_okR ha) (RQ.of_okR hb) (by rw [RQ.of_v]; exact h)
  rwa [RQ.of_v, RQ.of_v] at this
theorem kqneg (a : Rat) (ha : Sz 134217728 a) : Fn Tryz.prog En 101 [qC a] (qC (-a)) := by
  have := qneg En (RQ.of a) (RQ.of_okR ha)
  rwa [RQ.of_v] at this
end
/-- Binomial coefficients, as they are computed. -/
def bin (n : Nat) : Nat → Nat
  | 0 => 1
  | i + 1 => bin n i * (n - i) / (i + 1)
theorem bin_le : ∀ n : Fin 23, ∀ i : Fin 23, bin n.1 i.1 ≤ 1000000 := by decide +kernel
/-- The Bernoulli numbers. -/
def bern : Nat → Rat
  | 0 => 1
  | 1 => mkRat (-1) 2
  | 2 => mkRat 1 6
  | 4 => mkRat (-1) 30
  | 6 => mkRat 1 42
  | 8 => mkRat (-1) 30
  | 10 => mkRat 5 66
  | 12 => mkRat (-691) 2730
  | 14 => mkRat 7 6
  | 16 => mkRat (-3617) 510
  | 18 => mkRat 43867 798
  | 20 => mkRat (-174611) 330
  | _ => 0
/-- The sums that lead to them. -/
def psum (n : Nat) : Nat → Rat
  | 0 => 0
  | i + 1 => psum n i + (bin (n + 1) i : Int) * bern i
theorem bern_step0 : ∀ n : Fin 20, psum (n.1 + 1) (n.1 + 1) / ((-((n.1 : Int) + 2) : Int) : Rat) = bern (n.1 + 1) := by decide +kernel
theorem psum_sz0 : ∀ n : Fin 21, ∀ i : Fin 22, (psum n.1 i.1).num.natAbs < 18446744073709551616 ∧ (psum n.1 i.1).den < 18446744073709551616 := by decide +kernel
theorem bern_sz0 : ∀ i : Fin 22, (bern i.1).num.natAbs < 18446744073709551616 ∧ (bern i.1).den < 18446744073709551616 := by decide +kernel
theorem sz_two {r : Rat} (h : r.num.natAbs < 18446744073709551616 ∧ r.den < 18446744073709551616) : Sz 2 r := ⟨zl_small (by omega) (by omega), zl_small (by omega) (by omega)⟩
theorem psum_sz {n i : Nat} (hn : n ≤ 20) (hi : i ≤ 21) : Sz 2 (psum n i) := sz_two (psum_sz0 ⟨n, by omega⟩ ⟨i, by omega⟩)
theorem bern_sz {i : Nat} (hi : i ≤ 21) : Sz 2 (bern i) := sz_two (bern_sz0 ⟨i, by omega⟩)
theorem sz_z {z : Int} (h1 : -9223372036854775808 ≤ z) (h2 : z ≤ 9223372036854775807) : Sz 2 (z : Rat) := szq_int (zl_small (by omega) (by omega)) (by omega)
theorem bern_step {n : Nat} (h1 : 1 ≤ n) (h2 : n ≤ 20) : psum n n / ((-((n : Int) + 1) : Int) : Rat) = bern n := by
  have := bern_step0 ⟨n - 1, by omega⟩
  simp only at this
  rw [show n - 1 + 1 = n by omega] at this
  rw [← this]; congr 3; omega
/-- Rows of cells. -/
def rows (f : Nat → List Pd) (n : Nat) : List Pd := (List.range n).flatMap f
theorem rows_succ (f : Nat → List Pd) (n : Nat) : rows f (n + 1) = rows f n ++ f n := by unfold rows; rw [List.range_succ, List.flatMap_append]; simp
theorem rows_len {f : Nat → List Pd} {k : Nat} (hf : ∀ i, (f i).length = k) : ∀ n, (rows f n).length = n * k
  | 0 => by simp [rows]
  | n + 1 => by rw [rows_succ, List.length_append, rows_len hf n, hf, Nat.succ_mul]
theorem rows_get {f : Nat → List Pd} {k : Nat} (hf : ∀ i, (f i).length = k) : ∀ {n i : Nat}, i < n → ((rows f n).drop (i * k)).take k = f i
  | 0, i, h => by omega
  | n + 1, i, h => by
    rw [rows_succ]
    by_cases e : i = n
    · subst e
      rw [← rows_len hf i, List.drop_left, ← hf i, List.take_length]
    · have hlt : i < n := by omega
      have hle : i * k + k ≤ n * k := by rw [← Nat.succ_mul]; exact Nat.mul_le_mul_right _ hlt
      rw [List.drop_append_of_le_length (by rw [rows_len hf]; omega), List.take_append_of_le_length (by rw [List.length_drop, rows_len hf]; omega)]
      exact rows_get hf hlt
theorem rows_congr {f g : Nat → List Pd} : ∀ {n : Nat}, (∀ i, i < n → f i = g i) → rows f n = rows g n
  | 0, _ => rfl
  | n + 1, h => by rw [rows_succ, rows_succ, rows_congr fun i hi => h i (by omega), h n (by omega)]
def bcells : Nat → List Pd := fun i => qCells (bern i)
theorem bcells_len (i : Nat) : (bcells i).length = 4 := rfl
section
variable (En : Ev)
end
end Go.Proofs.YtpiflllcjgpkhaaGreatDoor

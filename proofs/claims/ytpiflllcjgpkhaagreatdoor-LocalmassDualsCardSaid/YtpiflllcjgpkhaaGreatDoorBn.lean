/- Bernoulli numbers: plain, and the program's and the reference's lists. -/
import Derived.Test.YtpiflllcjgpkhaaGreatDoorSa
set_option maxRecDepth 3000
namespace Go.Proofs.YtpiflllcjgpkhaaGreatDoor
open Go.RowKit Limb
instance cbody68 : CBody Tryz.prog 68 := ⟨⟨_, Tryz.func68, rfl, by rfl⟩⟩
instance cbody67 : CBody Tryz.prog 67 := ⟨⟨_, Tryz.func67, rfl, by rfl⟩⟩
/-! Contracts for canonical numbers. -/
section
variable (En : Ev)
theorem krsub (a b : Rat) (ha : Sz 1073741824 a) (hb : Sz 1073741824 b) : Fn Tryz.prog En 65 [qC a, qC b] (qC (a - b)) := by
  have := rsub En (RQ.of a) (RQ.of b) (RQ.of_ok ha) (RQ.of_ok hb)
  rwa [RQ.of_v, RQ.of_v] at this
theorem krmul (a b : Rat) (ha : Sz 1073741824 a) (hb : Sz 1073741824 b) : Fn Tryz.prog En 35 [qC a, qC b] (qC (a * b)) := by
  have := rmul En (RQ.of a) (RQ.of b) (RQ.of_ok ha) (RQ.of_ok hb)
  rwa [RQ.of_v, RQ.of_v] at this
theorem krquo (a b : Rat) (ha : Sz 1073741824 a) (hb : Sz 1073741824 b) (h : b ≠ 0) : Fn Tryz.prog En 39 [qC a, qC b] (tupP [qC (a / b), ex (.bool true)]) := by
  have := rquo En (RQ.of a) (RQ.of b) (RQ.of_ok ha) (RQ.of_ok hb) (by rw [RQ.of_v]; exact h)
  rwa [RQ.of_v, RQ.of_v] at this
theorem krpow (a : Rat) (n : Nat) (ha : Sz 1073741824 a) (hn : n ≤ 64) : Fn Tryz.prog En 33 [qC a, ex (.int .i64 (n : Int))] (tupP [qC (a ^ n), ex (.bool true)]) := by
  have := rpow En (RQ.of a) n (RQ.of_ok ha) hn
  rwa [RQ.of_v] at this
theorem krpow_neg (a : Rat) (n : Nat) (ha : Sz 1073741824 a) (hn : n ≤ 64) (hn0 : 0 < n) (h : a ≠ 0) : Fn Tryz.prog En 33 [qC a, ex (.int .i64 (-(n : Int)))] (tupP [qC (a⁻¹ ^ n), ex (.bool true)]) := by
  have := rpow_neg En (RQ.of a) n (RQ.of_ok ha) hn hn0 (by rw [RQ.of_v]; exact h)
  rwa [RQ.of_v] at this
end
theorem sz_two {r : Rat} (h : r.num.natAbs < 18446744073709551616 ∧ r.den < 18446744073709551616) : Sz 2 r := ⟨zl_small (by omega) (by omega), zl_small (by omega) (by omega)⟩
theorem sz_z {z : Int} (h1 : -9223372036854775808 ≤ z) (h2 : z ≤ 9223372036854775807) : Sz 2 (z : Rat) := szq_int (zl_small (by omega) (by omega)) (by omega)
/-- Rows of cells. -/
def rows (f : Nat → List Pd) (n : Nat) : List Pd := (List.range n).flatMap f
theorem rows_succ (f : Nat → List Pd) (n : Nat) : rows f (n + 1) = rows f n ++ f n := by unfold rows; rw [List.range_succ, List.flatMap_append]; simp
theorem rows_len {f : Nat → List Pd} {k : Nat} (hf : ∀ i, (f i).length = k) : ∀ n, (rows f n).length = n * k
  | 0 => by simp [rows]
  | n + 1 => by rw [rows_succ, List.length_append, rows_len hf n, hf, Nat.succ_mul]
theorem rows_get {f : Nat → List Pd} {k : Nat} (hf : ∀ i, (f i).length = k) : ∀ {n i : Nat}, i < n → ((rows f n).drop (i * k)).take k = f i
  | 0, i, h => by omega
  | n + 1, i, h => by
    rw [rows_succ]
    by_cases e : i = n
    · subst e
      rw [← rows_len hf i, List.drop_left, ← hf i, List.take_length]
    · have hlt : i < n := by omega
      have hle : i * k + k ≤ n * k := by rw [← Nat.succ_mul]; exact Nat.mul_le_mul_right _ hlt
      rw [List.drop_append_of_le_length (by rw [rows_len hf]; omega), List.take_append_of_le_length (by rw [List.length_drop, rows_len hf]; omega)]
      exact rows_get hf hlt
section
variable (En : Ev)
end
end Go.Proofs.YtpiflllcjgpkhaaGreatDoor

/- Rational numbers of the program: lowest, Whole, Normalize, sum, product, Add, Sub, Mul, Quo, Neg, Sign, Pow, Cmp. -/
import Derived.Test.YtnhbdldchoepfaaDoorIc
import Derived.Test.YtnhbdldchoepfaaDoorQv
set_option maxRecDepth 3000
namespace Go.Proofs.YtnhbdldchoepfaaDoor
open Go.RowKit Limb
section
variable (En : Ev)
/-! Contracts for canonical integers. -/
theorem ksmall (n : Int) (h1 : -9223372036854775808 ≤ n) (h2 : n ≤ 9223372036854775807) : Fn Tryd.prog En 13 [ex (.int .i64 n)] (zC n) := ismall En n h1 h2
theorem ksign (a : Int) (ha : zl a ≤ 274877906944) : Fn Tryd.prog En 20 [zC a] (ex (.int .i64 (sg3 a))) := by
  have := isign En (decide (a < 0)) _ (lm_digs a.natAbs) (Nat.le_trans ha (by omega))
  rwa [zv_C] at this
theorem knormalize (a : Int) (ha : zl a ≤ 274877906944) : Fn Tryd.prog En 34 [zC a] (zC a) := by
  have := inormalize En (decide (a < 0)) _ (lm_digs a.natAbs) ha
  rwa [zv_C] at this
theorem kmul (a b : Int) (ha : zl a ≤ 274877906944) (hb : zl b ≤ 274877906944) : Fn Tryd.prog En 12 [zC a, zC b] (zC (a * b)) := by
  have := imul En (decide (a < 0)) _ (decide (b < 0)) _ (lm_digs a.natAbs) (lm_digs b.natAbs) ha hb
  rwa [zv_C, zv_C] at this
theorem kcmp (a b : Int) (ha : zl a ≤ 274877906944) (hb : zl b ≤ 274877906944) : Fn Tryd.prog En 21 [zC a, zC b] (ex (.int .i64 (cmpZ a b))) := by
  have := icmp En (decide (a < 0)) _ (decide (b < 0)) _ (lm_digs a.natAbs) (lm_digs b.natAbs) ha hb
  rwa [zv_C, zv_C] at this
theorem kpow (a : Int) (n : Nat) (ha : zl a ≤ 1073741824) (hn : n ≤ 64) : Fn Tryd.prog En 18 [zC a, ex (.int .i64 (n : Int))] (tupP [zC (a ^ n), ex (.bool true)]) := by
  have := ipow En (decide (a < 0)) _ n (lm_digs a.natAbs) ha hn
  rwa [zv_C] at this
/-! Rational numbers. -/
theorem zR_nil : PLe (aggP [ex (.bool false), ex (.slice none 0 0)]) (zC 0) := zC_nil
theorem qC_mk (r : Rat) {a b : Int} (h1 : r.num = a) (h2 : (r.den : Int) = b) : qC r = aggP [ex (.bool (decide (a < 0))), mag (digs a.natAbs), ex (.bool (decide (b < 0))), mag (digs b.natAbs)] := by
  subst h1; subst h2; rfl
end
end Go.Proofs.YtnhbdldchoepfaaDoor

/- Two species with the same numbers are equal. -/
import Derived.Test.YtdieokoenhncfaaGreatDoorMy
import Derived.Laws.StructEq
set_option maxRecDepth 3000
namespace Go.Proofs.YtdieokoenhncfaaGreatDoor
open Go.RowKit Limb
theorem run_equali {P : Program} {T : TypeId} {k : IntKind} (w : World) (d : Nat) (hT : P.underlying T = some (.int k)) (a b : Int) : (Op.equalIn (d + 1) T (.int .i64 a) (.int .i64 b)).run P w = .ok (a == b) w := by
 rw [Op.equalIn]
 simp only [Sem.run_bind, run_underlying hT, Result.andThen_ok, if_true, Sem.run_pure]
theorem run_eqSpec (w : World) (x y : Operand) (a b : Int) : (do eqGuard .eql 47 x y (.agg #[.int .i64 a, .int .i64 b]) (.agg #[.int .i64 a, .int .i64 b]); Go.binOp .eql 47 (.agg #[.int .i64 a, .int .i64 b]) (.agg #[.int .i64 a, .int .i64 b]) : Sem Value).run Tryz.prog w = .ok (.bool true) w := by
 have h1 : Tryz.prog.eqGuardType Tryz.prog.depth 47 = false := by kernel_rfl
 have h2 : Tryz.prog.stoodInHeld 47 = false := by kernel_rfl
 have h3 : (Op.equal 47 (.agg #[.int .i64 a, .int .i64 b]) (.agg #[.int .i64 a, .int .i64 b])).run Tryz.prog w = .ok true w := by
  show (Op.equalIn (((Op.maxDepth - 2) + 1) + 1) _ _ _).run _ w = _
  rw [run_equalIn_struct w _ _ _ _ (by rw [Tryz.underlying47]; rfl) h2]
  have hi : (isAgg 3).run Tryz.prog w = .ok false w := run_isAgg Tryz.underlying3 w
  unfold Program.fieldsOf
  rw [Tryz.underlying47]
  simp [Op.eqFields, part, hi, run_equali w _ Tryz.underlying3]
 simp [eqGuard, Go.binOp, h1, h3]
theorem ru_eqSpec {En : Ev} {n : Nat} {sl : Sl} {bx : Bx} {dst : Option Tmp} {ty : TypeId} {pos : String} {after : Array Edge} {guard : Option (Nat × Bool)} {x y : Operand} {T' : TypeId} {a b : Int} (hx : osd sl x = some (.one (aggP [ex (.int .i64 a), ex (.int .i64 b)]))) (hy : osd sl y = some (.one (aggP [ex (.int .i64 a), ex (.int .i64 b)]))) :
  RT Tryz.prog En n ⟨dst, .binOp .eql 47 x y T', ty, pos, after, guard⟩ sl bx ⟨.one (ex (.bool true)), [], []⟩ :=
 RT.pure fun ρ h _ _ H => by
  have key : ∀ v, (aggP [ex (.int .i64 a), ex (.int .i64 b)]).p h v → v = .agg #[.int .i64 a, .int .i64 b] := by
   rintro v ⟨vs, e, ha⟩
   match vs, ha with
   | [u0, u1], ⟨q0, _, q1, _, _⟩ =>
    have q0 : u0 = .int .i64 a := q0
    have q1 : u1 = .int .i64 b := q1
    rw [e, q0, q1]
  have h1 := key _ (H x (by simp [Op.operands]) _ hx).1
  have h2 := key _ (H y (by simp [Op.operands]) _ hy).1
  refine ⟨.bool true, fun w _ => ?_, rfl, trivial⟩
  simp only [execOp, h1, h2]
  rw [Sem.run_bind, run_eqSpec w]
  rfl
end Go.Proofs.YtdieokoenhncfaaGreatDoor

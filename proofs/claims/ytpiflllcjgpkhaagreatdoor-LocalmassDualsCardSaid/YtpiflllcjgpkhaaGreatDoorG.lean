/- Package variables that stay as they are: reading them in the abstract walk; contracts under a stronger environment. For any program. -/
import Derived.Test.YtpiflllcjgpkhaaGreatDoorQ
set_option maxRecDepth 3000
namespace Go.Proofs.YtpiflllcjgpkhaaGreatDoor
open Go.RowKit Limb
/-- A contract under a stronger environment. -/
theorem Fn.env {P : Program} {E1 E2 : Ev} {f : FuncId} {ps : List Pd} {r : Pd} (h : Fn P E1 f ps r) (he : ∀ w, E2.e w → E1.e w) : Fn P E2 f ps r :=
  fun hh w vs hw => h hh w vs (he w hw)
section
variable {P : Program} {En : Ev} {n : Nat} {ops : Array Oper} {o : Oper} {sl : Sl} {bx : Bx}
theorem LT.skipU {g t : Nat} {b : Bool} (hg : o.guard = some (g, b)) (hd : (ops[g]?).bind (·.dst) = some t) (ht : look sl t = some (.one (ex undef))) : LT P En n ops o sl bx ⟨.one (ex undef), [], []⟩ := by
  intro sl' bx' h1 _ _ w0 h0 c hh β a w Q hi hs K hK
  obtain ⟨v, hv, hok, _⟩ := hs.slot t _ (by rw [h1 t (guard_looks hg hd)]; exact ht)
  have hv' : v = undef := hok
  subst hv'
  have : Region.wanted o (yielded ops a.tmps) = false := by simp [Region.wanted, hg, yielded, hd, hv, undef]
  rw [this]
  simp only [Bool.false_eq_true, if_false]
  exact hK _ _ ⟨undef, hh, β, rfl, hi, Le.refl _, fun _ _ => rfl, rfl, trivial⟩
/-- The same as RT.pure, the environment at hand. -/
theorem RT.pureE {sd : SD} (H : ∀ (ρ : Operand → Value) (h : GH) (β : Nat → Nat) (bx' : Bx), (∀ x ∈ o.op.operands.toList, ∀ s, osd sl x = some s → s.ok h β (ρ x) ∧ s.live bx') → ∃ v, (∀ w, En.e w → Holds h w → (execOp ρ o).run P w = .ok (.value v) w) ∧ sd.ok h β v ∧ sd.live bx') :
    RT P En n o sl bx ⟨sd, [], []⟩ := by
  intro sl' bx' h1 _ _ w0 h0 c h β a w Q hi hs
  obtain ⟨v, hv, hok, hl⟩ := H a.eval h β bx' (fun x hx s hxs => osd_ok hs (by rw [h1 x hx]; exact hxs))
  unfold Oper.wp
  rw [hv w hi.envNow hi.holds]
  exact ⟨v, h, β, rfl, hi, Le.refl _, fun _ _ => rfl, hok, hl⟩
end
section
variable {P : Program} {En : Ev} {n : Nat} {sl : Sl} {bx : Bx} {dst : Option Tmp} {ty : TypeId} {pos : String} {after : Array Edge} {guard : Option (Nat × Bool)}
/-- A row of a package variable. -/
theorem rg_loadR {T : TypeId} {x : Operand} {g off k : Nat} {vs : List Value} [ht : CRow P T k] (hx : osd sl x = some (.one (ex (.pointer (some ⟨g, off, none⟩))))) (hE : ∀ w, En.e w → w.rangeAt g off vs) (hk : vs.length = k) (h1c : ∀ v ∈ vs, v.oneCell' = true) :
    RT P En n ⟨dst, .load T x, ty, pos, after, guard⟩ sl bx ⟨.one (aggP (vs.map ex)), [], []⟩ :=
  RT.pureE fun ρ h β bx' H => by
    have h1 : ρ x = .pointer (some ⟨g, off, none⟩) := (H x (by simp [Op.operands]) _ hx).1
    obtain ⟨d, hd1, hd2, hd3⟩ := ht.ok
    refine ⟨.agg vs.toArray, fun w he _ => ?_, ⟨vs, rfl, all2_ex h1c⟩, trivial⟩
    simp only [execOp, h1, Sem.run_bind, run_loadAt_mid w g off T vs d (hE w he) hd1 hd2 (by rw [hk]; exact hd3), Result.andThen_ok, Sem.run_pure]
/-- An element of an array that is a value. -/
theorem rg_indexV {T E : TypeId} {x ix : Operand} {len k : Nat} {ps : List Pd} {kk : IntKind} {i : Nat} [hT : CArr P T len E k] [hE : CRow P E k] (hx : osd sl x = some (.one (aggP ps))) (hi : osd sl ix = some (.one (ex (.int kk (i : Int))))) (hy : i < len) {qs : List Pd} (hq : (ps.drop (i * k)).take k = qs) :
    RT P En n ⟨dst, .index T x ix, ty, pos, after, guard⟩ sl bx ⟨.one (aggP qs), [], []⟩ :=
  RT.pure fun ρ h β bx' H => by
    subst hq
    obtain ⟨vs, h1, h2⟩ : (aggP ps).p h (ρ x) := (H x (by simp [Op.operands]) _ hx).1
    have h6 : ρ ix = .int kk (i : Int) := (H ix (by simp [Op.operands]) _ hi).1
    obtain ⟨t1, t2⟩ := hT.ok
    obtain ⟨inf, t3, t4⟩ := Option.map_eq_some_iff.1 t2
    obtain ⟨d, hd1, hd2, _⟩ := hE.ok
    have h5 : (0 : Int) ≤ (i : Int) ∧ (i : Int) < (len : Int) := by omega
    refine ⟨.agg ((vs.drop (i * k)).take k).toArray, fun w _ => ?_, ⟨_, rfl, (h2.drop _).take _⟩, trivial⟩
    simp only [execOp, h1, h6, Instr.index, asIntOf, Sem.run_bind, Sem.run_pure, Result.andThen_ok, run_underlying t1, if_pos h5, sizeOf, run_typeInfo _ t3, t4, part, run_isAgg hd1, hd2, if_true, Int.toNat_natCast, List.extract_toArray, List.extract_eq_take_drop, Nat.add_sub_cancel_left]
end
end Go.Proofs.YtpiflllcjgpkhaaGreatDoor

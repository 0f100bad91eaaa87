/- Results of the abstract walk; contracts of another kind brought to it. For any program. -/
import Derived.Test.YtnhbdldchoepfaaDoorAc
namespace Go.Proofs.YtnhbdldchoepfaaDoor
open Go.RowKit
section
variable {P : Program} {fn : Func} {σ : St} {r : Pd}
def rvSem (tmps : Array Value) : ResultVar → Sem Value
  | .tmp t => pure (tmps.getD t undef)
  | .cell a t => do loadVar t (← asAddr (tmps.getD a undef))
/-- What a result is. -/
inductive RV (P : Program) (σ : St) : ResultVar → Pd → Prop
  | tmp {t : Nat} {p : Pd} (h : look σ.sl t = some (.one p)) : RV P σ (.tmp t) p
  | cell {t b k : Nat} {T : TypeId} {ps : List Pd} (h : look σ.sl t = some (.ptr b 0)) (hb : look σ.bx b = some ps) (ht : TyRow P T k) (hk : Nat.beq ps.length k = true) : RV P σ (.cell t T) (aggP ps)
theorem RV.run {rv : ResultVar} {p : Pd} (hr : RV P σ rv p) {En : Ev} {n : Nat} {w0 : World} {h0 : GH} {c : Cx} {h : GH} {β : Nat → Nat} {a : Act} {w : World} (hi : Inv En w0 h0 c h β σ.bx w) (hs : Slots n h β σ.sl σ.bx a) : ∃ v, (rvSem a.tmps rv).run P w = .ok v w ∧ p.p h v := by
  cases hr with
  | @tmp t p ht =>
    obtain ⟨v, hv, ho, _⟩ := hs.slot _ _ ht
    exact ⟨v, by simp [rvSem, hv], ho⟩
  | @cell t b k T ps ht hb hty hk =>
    obtain ⟨v, hv, ho, _⟩ := hs.slot _ _ ht
    have ho : v = .pointer (some ⟨β b, 0, none⟩) := ho
    subst ho
    obtain ⟨_, _, vs, rest, T', hg, ha⟩ := hi.box _ _ hb
    obtain ⟨d, hd1, hd2, hd3⟩ := hty
    have hl := ha.length
    have hk := Nat.eq_of_beq_eq_true hk
    refine ⟨.agg vs.toArray, ?_, vs, rfl, ha⟩
    have := run_loadVar_mid (P := P) w (β b) 0 T vs d (range_box hg (by simp)) hd1 hd2 (by rw [hd3]; congr 1; omega)
    simp [rvSem, hv, asAddr, this]
theorem results_eq (tmps : Array Value) : results fn tmps = (do let vs ← fn.results.mapM (rvSem tmps); pure (if h : vs.size = 1 then vs[0] else .tuple vs)) := by
  unfold results
  have : rvSem tmps = (fun | .tmp t => pure (tmps.getD t undef) | .cell a t => do loadVar t (← asAddr (tmps.getD a undef)) : ResultVar → Sem Value) := by funext x; cases x <;> rfl
  rw [this]
  rfl
theorem ret1 {a : ResultVar} {p : Pd} (hf : fn.results = #[a]) (h1 : RV P σ a p) (hr : PLe p r) : RetOK P fn σ r := by
  intro En n w0 h0 c h β act w hi hs
  obtain ⟨v, hv, hp⟩ := h1.run hi hs
  exact ⟨v, by rw [results_eq, hf]; simp [hv], hr _ _ hp⟩
theorem ret2 {a b : ResultVar} {p q : Pd} (hf : fn.results = #[a, b]) (h1 : RV P σ a p) (h2 : RV P σ b q) (hr : PLe (tupP [p, q]) r) : RetOK P fn σ r := by
  intro En n w0 h0 c h β act w hi hs
  obtain ⟨v, hv, hp⟩ := h1.run hi hs
  obtain ⟨u, hu, hq⟩ := h2.run hi hs
  exact ⟨.tuple #[v, u], by rw [results_eq, hf]; simp [hv, hu], hr _ _ ⟨[v, u], rfl, hp, hq, trivial⟩⟩
theorem ret3 {a b c : ResultVar} {p q s : Pd} (hf : fn.results = #[a, b, c]) (h1 : RV P σ a p) (h2 : RV P σ b q) (h3 : RV P σ c s) (hr : PLe (tupP [p, q, s]) r) : RetOK P fn σ r := by
  intro En n w0 h0 c h β act w hi hs
  obtain ⟨v, hv, hp⟩ := h1.run hi hs
  obtain ⟨u, hu, hq⟩ := h2.run hi hs
  obtain ⟨x, hx, hxx⟩ := h3.run hi hs
  exact ⟨.tuple #[v, u, x], by rw [results_eq, hf]; simp [hv, hu, hx], hr _ _ ⟨[v, u, x], rfl, hp, hq, hxx, trivial⟩⟩
end
/-! ### Contracts that speak of worlds -/
/-- All that is new is known from now on. -/
def pub (w w' : World) (h : GH) : GH := fun b o => if w.heap.size ≤ b then w'.cell? ⟨b, o, none⟩ else h b o
theorem pub_old {w w' : World} {h : GH} {b o : Nat} (hb : b < w.heap.size) : pub w w' h b o = h b o := by unfold pub; rw [if_neg (by omega)]
theorem pub_new {w w' : World} {h : GH} {b o : Nat} (hb : w.heap.size ≤ b) : pub w w' h b o = w'.cell? ⟨b, o, none⟩ := by unfold pub; rw [if_pos hb]
theorem fn_post {h : GH} {w w' : World} {r : Pd} {v : Value} (hh : Holds h w) (hb : Below w.heap.size w w') (hr : r.p (pub w w' h) v) : FnPost h w r (.returned v) w' := by
  refine ⟨v, pub w w' h, rfl, fun b o u e => ?_, fun b o u e => ?_, fun b o u e e0 => ?_, hb, hr⟩
  · rw [pub_old (hh.lt e)]; exact e
  · rcases Nat.lt_or_ge b w.heap.size with hlt | hge
    · rw [pub_old hlt] at e
      rw [hb.cell (p := ⟨b, o, none⟩) hlt]
      exact hh b o u e
    · rwa [pub_new hge] at e
  · rcases Nat.lt_or_ge b w.heap.size with hlt | hge
    · rw [pub_old hlt, e0] at e; cases e
    · exact hge
theorem AllV.one {h : GH} {p : Pd} {vs : List Value} (ha : AllV h [p] vs) : ∃ v, vs = [v] ∧ p.p h v := by
  cases vs with
  | nil => exact ha.elim
  | cons v vs => cases vs with
    | nil => exact ⟨v, rfl, ha.1⟩
    | cons => exact ha.2.elim
theorem AllV.two {h : GH} {p q : Pd} {vs : List Value} (ha : AllV h [p, q] vs) : ∃ v u, vs = [v, u] ∧ p.p h v ∧ q.p h u := by
  cases vs with
  | nil => exact ha.elim
  | cons v vs => obtain ⟨u, rfl, hu⟩ := AllV.one (p := q) ha.2; exact ⟨v, u, rfl, ha.1, hu⟩
theorem AllV.three {h : GH} {p q r : Pd} {vs : List Value} (ha : AllV h [p, q, r] vs) : ∃ v u x, vs = [v, u, x] ∧ p.p h v ∧ q.p h u ∧ r.p h x := by
  cases vs with
  | nil => exact ha.elim
  | cons v vs => obtain ⟨u, x, rfl, hu, hx⟩ := AllV.two (p := q) (q := r) ha.2; exact ⟨v, u, x, rfl, ha.1, hu, hx⟩
theorem All2.two {h : GH} {p q : Pd} {vs : List Value} (ha : All2 h [p, q] vs) : ∃ v u, vs = [v, u] ∧ p.p h v ∧ q.p h u ∧ v.oneCell' = true ∧ u.oneCell' = true := by
  cases vs with
  | nil => exact ha.elim
  | cons v vs => cases vs with
    | nil => exact ha.2.2.elim
    | cons u vs => cases vs with
      | nil => exact ⟨v, u, rfl, ha.1, ha.2.2.1, ha.2.1, ha.2.2.2.1⟩
      | cons => exact ha.2.2.2.2.elim
/-! ### Integers -/
section
variable {P : Program} (w : World)
theorem run_eqi (T : TypeId) (x y : Operand) (k : IntKind) (a b : Int) : (do eqGuard .eql T x y (.int k a) (.int k b); Go.binOp .eql T (.int k a) (.int k b) : Sem Value).run P w = .ok (.bool (a == b)) w := by
  simp [eqGuard, Go.binOp, Op.intCmp]
theorem run_nei (T : TypeId) (x y : Operand) (k : IntKind) (a b : Int) : (do eqGuard .neq T x y (.int k a) (.int k b); Go.binOp .neq T (.int k a) (.int k b) : Sem Value).run P w = .ok (.bool (a != b)) w := by
  simp [eqGuard, Go.binOp, Op.intCmp]
theorem run_lti (T : TypeId) (x y : Operand) (k : IntKind) (a b : Int) : (do eqGuard .lss T x y (.int k a) (.int k b); Go.binOp .lss T (.int k a) (.int k b) : Sem Value).run P w = .ok (.bool (decide (a < b))) w := by
  simp [eqGuard, Go.binOp, Op.intCmp]
theorem run_lei (T : TypeId) (x y : Operand) (k : IntKind) (a b : Int) : (do eqGuard .leq T x y (.int k a) (.int k b); Go.binOp .leq T (.int k a) (.int k b) : Sem Value).run P w = .ok (.bool (decide (a ≤ b))) w := by
  simp [eqGuard, Go.binOp, Op.intCmp]
theorem run_gti (T : TypeId) (x y : Operand) (k : IntKind) (a b : Int) : (do eqGuard .gtr T x y (.int k a) (.int k b); Go.binOp .gtr T (.int k a) (.int k b) : Sem Value).run P w = .ok (.bool (decide (a > b))) w := by
  simp [eqGuard, Go.binOp, Op.intCmp]
theorem run_gei (T : TypeId) (x y : Operand) (k : IntKind) (a b : Int) : (do eqGuard .geq T x y (.int k a) (.int k b); Go.binOp .geq T (.int k a) (.int k b) : Sem Value).run P w = .ok (.bool (decide (a ≥ b))) w := by
  simp [eqGuard, Go.binOp, Op.intCmp]
theorem run_addi (T : TypeId) (x y : Operand) (k : IntKind) (a b : Int) : (do eqGuard .add T x y (.int k a) (.int k b); Go.binOp .add T (.int k a) (.int k b) : Sem Value).run P w = .ok (.int k (k.wrap (a + b))) w := by
  simp [eqGuard, Go.binOp, Op.intArith]
theorem run_subi (T : TypeId) (x y : Operand) (k : IntKind) (a b : Int) : (do eqGuard .sub T x y (.int k a) (.int k b); Go.binOp .sub T (.int k a) (.int k b) : Sem Value).run P w = .ok (.int k (k.wrap (a - b))) w := by
  simp [eqGuard, Go.binOp, Op.intArith]
theorem run_muli (T : TypeId) (x y : Operand) (k : IntKind) (a b : Int) : (do eqGuard .mul T x y (.int k a) (.int k b); Go.binOp .mul T (.int k a) (.int k b) : Sem Value).run P w = .ok (.int k (k.wrap (a * b))) w := by
  simp [eqGuard, Go.binOp, Op.intArith]
theorem run_equalb {T : TypeId} (hT : P.underlying T = some .bool) (a b : Bool) : (Op.equal T (.bool a) (.bool b)).run P w = .ok (a == b) w := by
  show (Op.equalIn ((Op.maxDepth - 1) + 1) T (.bool a) (.bool b)).run P w = _
  rw [Op.equalIn]
  simp only [Sem.run_bind, run_underlying hT, Result.andThen_ok, Sem.run_pure]
theorem run_eqb {T : TypeId} (hT : P.underlying T = some .bool) (x y : Operand) (a b : Bool) : (do eqGuard .eql T x y (.bool a) (.bool b); Go.binOp .eql T (.bool a) (.bool b) : Sem Value).run P w = .ok (.bool (a == b)) w := by
  simp [eqGuard, Go.binOp, run_equalb w hT]
theorem run_neb {T : TypeId} (hT : P.underlying T = some .bool) (x y : Operand) (a b : Bool) : (do eqGuard .neq T x y (.bool a) (.bool b); Go.binOp .neq T (.bool a) (.bool b) : Sem Value).run P w = .ok (.bool (a != b)) w := by
  simp [eqGuard, Go.binOp, run_equalb w hT, bne]
theorem run_quoi (T : TypeId) (x y : Operand) (k : IntKind) (a b : Int) (hb : b ≠ 0) : (do eqGuard .quo T x y (.int k a) (.int k b); Go.binOp .quo T (.int k a) (.int k b) : Sem Value).run P w = .ok (.int k (k.wrap (a.tdiv b))) w := by
  simp [eqGuard, Go.binOp, Op.intDiv, hb]
theorem run_remi (T : TypeId) (x y : Operand) (k : IntKind) (a b : Int) (hb : b ≠ 0) : (do eqGuard .rem T x y (.int k a) (.int k b); Go.binOp .rem T (.int k a) (.int k b) : Sem Value).run P w = .ok (.int k (a.tmod b)) w := by
  simp [eqGuard, Go.binOp, Op.intDiv, hb]
theorem run_shli (T : TypeId) (x y : Operand) (k k' : IntKind) (a b : Int) (hb : 0 ≤ b) : (do eqGuard .shl T x y (.int k a) (.int k' b); Go.binOp .shl T (.int k a) (.int k' b) : Sem Value).run P w = .ok (.int k (k.wrap (a * 2 ^ (min b.toNat k.bits)))) w := by
  simp [eqGuard, Go.binOp, Op.shift, Int.not_lt.2 hb]
theorem run_shri (T : TypeId) (x y : Operand) (k k' : IntKind) (a b : Int) (hb : 0 ≤ b) : (do eqGuard .shr T x y (.int k a) (.int k' b); Go.binOp .shr T (.int k a) (.int k' b) : Sem Value).run P w = .ok (.int k (a.fdiv (2 ^ (min b.toNat k.bits)))) w := by
  simp [eqGuard, Go.binOp, Op.shift, Int.not_lt.2 hb]
theorem run_andi (T : TypeId) (x y : Operand) (k : IntKind) (a b : Int) : (do eqGuard .and T x y (.int k a) (.int k b); Go.binOp .and T (.int k a) (.int k b) : Sem Value).run P w = .ok (.int k (k.wrap (BitVec.ofInt k.bits a &&& BitVec.ofInt k.bits b).toNat)) w := by
  simp [eqGuard, Go.binOp, Op.intBits]
theorem run_ori (T : TypeId) (x y : Operand) (k : IntKind) (a b : Int) : (do eqGuard .or T x y (.int k a) (.int k b); Go.binOp .or T (.int k a) (.int k b) : Sem Value).run P w = .ok (.int k (k.wrap (BitVec.ofInt k.bits a ||| BitVec.ofInt k.bits b).toNat)) w := by
  simp [eqGuard, Go.binOp, Op.intBits]
theorem run_convi {S T : TypeId} {d : TypeDesc} {k : IntKind} (hS : P.underlying S = some d) (hT : P.underlying T = some (.int k)) (k' : IntKind) (a : Int) : (convert S T (.int k' a)).run P w = .ok (.int k (k.wrap a)) w := by
  simp [convert, run_underlying hS, run_underlying hT, Conv.intToInt]
theorem vint {k : IntKind} {a b : Int} (h : a = b) : Value.int k a = .int k b := by rw [h]
theorem vbool {a b : Bool} (h : a = b) : Value.bool a = .bool b := by rw [h]
theorem run_not (b : Bool) : (Op.unary .not (.bool b)).run P w = .ok (.bool (!b)) w := by simp [Op.unary]
theorem run_negi (k : IntKind) (a : Int) : (Op.unary .neg (.int k a)).run P w = .ok (.int k (k.wrap (-a))) w := by simp [Op.unary, Op.intArith]
end
end Go.Proofs.YtnhbdldchoepfaaDoor

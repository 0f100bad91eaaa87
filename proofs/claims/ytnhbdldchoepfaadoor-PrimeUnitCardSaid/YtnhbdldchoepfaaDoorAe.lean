/- The abstract walk, step by step; facts on types and functions found by instances. For any program. -/
import Derived.Test.YtnhbdldchoepfaaDoorAd
namespace Go.Proofs.YtnhbdldchoepfaaDoor
open Go.RowKit
class CRow (P : Program) (T : TypeId) (k : outParam Nat) : Prop where
  ok : TyRow P T k
class COne (P : Program) (T : TypeId) : Prop where
  ok : TyOne P T
class CField (P : Program) (S : TypeId) (f : Nat) (off : outParam Nat) : Prop where
  ok : FieldOf P S f off
class CFieldT (P : Program) (S : TypeId) (f : Nat) (off : outParam Nat) (T : outParam TypeId) : Prop where
  ok : FieldTy P S f off T
class CZero (P : Program) (T : TypeId) (vs : outParam (List Value)) : Prop where
  ok : ZeroOf P T vs
class CStruct (P : Program) (T : TypeId) (pl : outParam (List (Nat × Nat))) (zs : outParam (List Value)) : Prop where
  ok : StructOf P T pl zs
class CBody (P : Program) (f : FuncId) : Prop where
  ok : Body P f
class CMix (P : Program) : Prop where
  ok : P.follows .mixedOrders = true
class CBool (P : Program) (T : TypeId) : Prop where
  ok : P.underlying T = some .bool
class CInt (P : Program) (T : TypeId) (k : outParam IntKind) : Prop where
  ok : P.underlying T = some (.int k)
class CSlice (P : Program) (T : TypeId) (E : outParam TypeId) : Prop where
  ok : P.underlying T = some (.slice E)
/-- A slice of this length. -/
class CLen (p : Pd) (n : outParam Nat) : Prop where
  ok : ∀ h v, p.p h v → ∃ a cap, v = .slice a n cap
/-- The cells of what is known. -/
class CPart (p : Pd) (ps : outParam (List Pd)) : Prop where
  ok : (C1 p ∧ ps = [p]) ∨ p = aggP ps
instance (priority := low) (p : Pd) [h : C1 p] : CPart p [p] := ⟨.inl ⟨h, rfl⟩⟩
instance (ps : List Pd) : CPart (aggP ps) ps := ⟨.inr rfl⟩
theorem Part.c {sl : Sl} {x : Operand} {p : Pd} {ps : List Pd} [h : CPart p ps] (hx : osd sl x = some (.one p)) : Part sl x ps := by
  rcases h.ok with ⟨h1, rfl⟩ | rfl
  · exact .inl ⟨p, h1, hx, rfl⟩
  · exact .inr hx
/-- A region under way: what is left of it, what has been done. -/
def RG (P : Program) (En : Ev) (n : Nat) (full rest : List Oper) (acc : List Eff) (K : Exit → St → Prop) (σ : St) : Prop :=
  ∃ es τ, Chain P En n full.toArray rest σ es τ ∧ okRegion n full (acc.reverse ++ es) = true ∧ K .normal τ
section
variable {P : Program} {En : Ev} {n : Nat} {w0 : World} {h0 : GH} {c : Cx} {K : Exit → St → Prop} {σ : St} {full rest : List Oper} {acc : List Eff} {sl : Sl} {bx : Bx}
theorem WpD.reg [hm : CMix P] {id : Nat} {draw : Bool} {l : List Oper} (h : RG P En n l l [] K σ) : WpD P En n w0 h0 c (.region id l.toArray draw) K σ := by
  obtain ⟨es, τ, h1, h2, h3⟩ := h
  exact WpD.region hm.ok h1 (by simpa using h2) h3
theorem WpD.condT {cc : Operand} {x y : Code} (hc : osd σ.sl cc = some (.one (ex (.bool true)))) (h : WpD P En n w0 h0 c x K σ) : WpD P En n w0 h0 c (.cond cc x y) K σ := WpD.cond hc (fun _ => h) (fun h => Bool.noConfusion h)
theorem WpD.condF {cc : Operand} {x y : Code} (hc : osd σ.sl cc = some (.one (ex (.bool false)))) (h : WpD P En n w0 h0 c y K σ) : WpD P En n w0 h0 c (.cond cc x y) K σ := WpD.cond hc (fun h => Bool.noConfusion h) (fun _ => h)
/-- Where ways meet again. -/
theorem WpD.cut {α : Type} {x y : Code} (J : α → St) (h : WpD P En n w0 h0 c x (kSeq (fun τ => ∃ i, Sub τ (J i)) K) σ) (h2 : ∀ i, WpD P En n w0 h0 c y K (J i)) : WpD P En n w0 h0 c (.seq x y) K σ := by
  refine WpD.seq fun Q a w hg hQ => h Q a w hg fun e τ a' w' hk hg' => ?_
  cases e with
  | normal =>
    obtain ⟨i, hi⟩ := hk
    exact hQ .normal (J i) a' w' (h2 i) (hi _ _ _ _ _ _ _ hg')
  | exit i => exact hQ _ τ a' w' hk hg'
  | goto i => exact hQ _ τ a' w' hk hg'
  | ret => exact hQ _ τ a' w' hk hg'
  | panic i => exact hQ _ τ a' w' hk hg'
  | outgrown => exact hQ _ τ a' w' hk hg'
theorem RG.nil (hok : okRegion n full acc.reverse = true) (hk : K .normal σ) : RG P En n full [] acc K σ := ⟨[], σ, .nil σ, by simpa using hok, hk⟩
theorem RG.cons {o : Oper} {e : Eff} (h : LT P En n full.toArray o σ.sl σ.bx e) (t : RG P En n full rest (e :: acc) K (upd1 σ o e)) : RG P En n full (o :: rest) acc K σ := by
  obtain ⟨es, τ, h1, h2, h3⟩ := t
  exact ⟨e :: es, τ, .cons h h1, by simpa using h2, h3⟩
theorem RG.S0 {d : Nat} {op : Op} {ty : TypeId} {pos : String} {after : Array Edge} {guard : Option (Nat × Bool)} {sd : SD} {rb : List Nat} (h : LT P En n full.toArray ⟨some d, op, ty, pos, after, guard⟩ sl bx ⟨sd, rb, []⟩)
    (t : RG P En n full rest (⟨sd, rb, []⟩ :: acc) K ⟨(d, sd) :: sl, bx⟩) : RG P En n full (⟨some d, op, ty, pos, after, guard⟩ :: rest) acc K ⟨sl, bx⟩ := RG.cons (σ := ⟨sl, bx⟩) h t
theorem RG.S1 {d : Nat} {op : Op} {ty : TypeId} {pos : String} {after : Array Edge} {guard : Option (Nat × Bool)} {sd : SD} {rb : List Nat} {x : Nat × List Pd} (h : LT P En n full.toArray ⟨some d, op, ty, pos, after, guard⟩ sl bx ⟨sd, rb, [x]⟩)
    (t : RG P En n full rest (⟨sd, rb, [x]⟩ :: acc) K ⟨(d, sd) :: sl, x :: bx⟩) : RG P En n full (⟨some d, op, ty, pos, after, guard⟩ :: rest) acc K ⟨sl, bx⟩ := RG.cons (σ := ⟨sl, bx⟩) h t
theorem RG.N0 {op : Op} {ty : TypeId} {pos : String} {after : Array Edge} {guard : Option (Nat × Bool)} {sd : SD} {rb : List Nat} (h : LT P En n full.toArray ⟨none, op, ty, pos, after, guard⟩ sl bx ⟨sd, rb, []⟩)
    (t : RG P En n full rest (⟨sd, rb, []⟩ :: acc) K ⟨sl, bx⟩) : RG P En n full (⟨none, op, ty, pos, after, guard⟩ :: rest) acc K ⟨sl, bx⟩ := RG.cons (σ := ⟨sl, bx⟩) h t
theorem RG.N1 {op : Op} {ty : TypeId} {pos : String} {after : Array Edge} {guard : Option (Nat × Bool)} {sd : SD} {rb : List Nat} {x : Nat × List Pd} (h : LT P En n full.toArray ⟨none, op, ty, pos, after, guard⟩ sl bx ⟨sd, rb, [x]⟩)
    (t : RG P En n full rest (⟨sd, rb, [x]⟩ :: acc) K ⟨sl, x :: bx⟩) : RG P En n full (⟨none, op, ty, pos, after, guard⟩ :: rest) acc K ⟨sl, bx⟩ := RG.cons (σ := ⟨sl, bx⟩) h t
/-- The guard lets the operation run. -/
inductive GOK (ops : Array Oper) (sl : Sl) (o : Oper) : Prop
  | no (h : o.guard = none)
  | yes {g t : Nat} {b : Bool} (h : o.guard = some (g, b)) (hd : (ops[g]?).bind (·.dst) = some t) (ht : look sl t = some (.one (ex (.bool b))))
theorem LT.g {ops : Array Oper} {o : Oper} {e : Eff} (hg : GOK ops sl o) (h : RT P En n o sl bx e) : LT P En n ops o sl bx e := by
  cases hg with
  | no h' => exact LT.plain h' h
  | yes h1 h2 h3 => exact LT.run h1 h2 h3 h
section
variable {dst : Option Tmp} {ty : TypeId} {pos : String} {after : Array Edge} {guard : Option (Nat × Bool)}
theorem ru_loadR {T : TypeId} {x : Operand} {b k o : Nat} {ps : List Pd} [ht : CRow P T k] (hx : osd sl x = some (.ptr b o)) (hb : look bx b = some ps) (hk : Nat.ble (o + k) ps.length = true) {qs : List Pd} (hq : (ps.drop o).take k = qs) :
    RT P En n ⟨dst, .load T x, ty, pos, after, guard⟩ sl bx ⟨.one (aggP qs), [b], []⟩ := by subst hq; exact rt_loadR o hx hb ht.ok hk
theorem ru_load1 {T : TypeId} {x : Operand} {b o : Nat} {ps : List Pd} {p : Pd} [ht : COne P T] (hx : osd sl x = some (.ptr b o)) (hb : look bx b = some ps) (hp : ps[o]? = some p) :
    RT P En n ⟨dst, .load T x, ty, pos, after, guard⟩ sl bx ⟨.one p, [b], []⟩ := rt_load1 o hx hb ht.ok hp
theorem ru_storeR {T : TypeId} {x y : Operand} {b k o : Nat} {ps qs : List Pd} [ht : CRow P T k] (hx : osd sl x = some (.ptr b o)) (hy : osd sl y = some (.one (aggP qs))) (hb : look bx b = some ps) (hq : Nat.beq qs.length k = true) (hk : Nat.ble (o + k) ps.length = true) {rs : List Pd} (hr : putL ps o qs = rs) :
    RT P En n ⟨dst, .store T x y, ty, pos, after, guard⟩ sl bx ⟨.one (ex undef), [b], [(b, rs)]⟩ := by subst hr; exact rt_storeR o hx hy hb ht.ok hq hk
theorem ru_store1 {T : TypeId} {x y : Operand} {b o : Nat} {ps : List Pd} {q : Pd} [COne P T] [C1 q] (hx : osd sl x = some (.ptr b o)) (hy : osd sl y = some (.one q)) (hb : look bx b = some ps) (hk : Nat.blt o ps.length = true) {rs : List Pd} (hr : putL ps o [q] = rs) :
    RT P En n ⟨dst, .store T x y, ty, pos, after, guard⟩ sl bx ⟨.one (ex undef), [b], [(b, rs)]⟩ := by subst hr; exact rt_store1 o hx hy hb COne.ok hk
theorem ru_fieldAddr {S : TypeId} {x : Operand} {f off b o : Nat} [hf : CField P S f off] (hx : osd sl x = some (.ptr b o)) {o' : Nat} (ho : o + off = o') : RT P En n ⟨dst, .fieldAddr S x f, ty, pos, after, guard⟩ sl bx ⟨.ptr b o', [], []⟩ := by subst ho; exact rt_fieldAddr hx hf.ok
theorem ru_field1 {S T : TypeId} {x : Operand} {f off : Nat} {ps : List Pd} {p : Pd} [hf : CFieldT P S f off T] [ht : COne P T] (hx : osd sl x = some (.one (aggP ps))) (hp : ps[off]? = some p) : RT P En n ⟨dst, .field S x f, ty, pos, after, guard⟩ sl bx ⟨.one p, [], []⟩ := rt_field1 hx hf.ok ht.ok hp
theorem ru_fieldR {S T : TypeId} {x : Operand} {f off k : Nat} {ps : List Pd} [hf : CFieldT P S f off T] [ht : CRow P T k] (hx : osd sl x = some (.one (aggP ps))) {qs : List Pd} (hq : (ps.drop off).take k = qs) : RT P En n ⟨dst, .field S x f, ty, pos, after, guard⟩ sl bx ⟨.one (aggP qs), [], []⟩ := by subst hq; exact rt_fieldR hx hf.ok ht.ok
theorem ru_build {T : TypeId} {xs : List (Nat × Operand)} {ps : List (Nat × List Pd)} {pl : List (Nat × Nat)} {zs : List Value} {rs : List Pd} [ht : CStruct P T pl zs] (hp : partsOf sl xs ps) (hf : fillP (fun (i : Nat) => pl[i]?) (zs.map ex) ps = some rs) :
    RT P En n ⟨dst, .build T xs.toArray, ty, pos, after, guard⟩ sl bx ⟨.one (aggP rs), [], []⟩ := rt_build ht.ok hp hf
theorem ru_alloc {d : Nat} {T : TypeId} {vs : List Value} [hz : CZero P T vs] (hd : Nat.blt d 1000 = true) (hn : look bx d = none) {ps : List Pd} (hp : vs.map ex = ps) : RT P En n ⟨some d, .alloc T, ty, pos, after, guard⟩ sl bx ⟨.ptr d 0, [], [(d, ps)]⟩ := by subst hp; exact rt_alloc d hz.ok (Nat.le_of_ble_eq_true hd) hn
theorem ru_boxR {d : Nat} {T : TypeId} {x : Operand} {ps : List Pd} (hx : osd sl x = some (.one (aggP ps))) (hd : Nat.blt d 1000 = true) (hn : look bx d = none) : RT P En n ⟨some d, .box T x, ty, pos, after, guard⟩ sl bx ⟨.ptr d 0, [], [(d, ps)]⟩ := rt_boxR d hx (Nat.le_of_ble_eq_true hd) hn
theorem ru_box1 {d : Nat} {T : TypeId} {x : Operand} {p : Pd} [C1 p] (hx : osd sl x = some (.one p)) (hd : Nat.blt d 1000 = true) (hn : look bx d = none) : RT P En n ⟨some d, .box T x, ty, pos, after, guard⟩ sl bx ⟨.ptr d 0, [], [(d, [p])]⟩ := rt_box1 d hx (Nat.le_of_ble_eq_true hd) hn
theorem ru_call {f : FuncId} {xs : List Operand} {ats : Array TypeId} {ps : List Pd} {r : Pd} [hb : CBody P f] (hf : Fn P En f ps r) (ha : args sl xs ps) :
    RT P En n ⟨dst, .call ⟨.value (.func f), xs.toArray, ats⟩, ty, pos, after, guard⟩ sl bx ⟨.one r, [], []⟩ := rt_call hf hb.ok ha
theorem ru_len {x : Operand} {T E : TypeId} {p : Pd} {k : Nat} [hl : CLen p k] (hx : osd sl x = some (.one p)) (ht : P.underlying T = some (.slice E)) : RT P En n ⟨dst, .call ⟨.builtin .len, #[x], #[T]⟩, ty, pos, after, guard⟩ sl bx ⟨.one (ex (.int .i64 k)), [], []⟩ :=
  RT.pure fun ρ h β bx' H => by
    obtain ⟨a, cap, hv⟩ := hl.ok h _ (H x (by simp [Op.operands, Call.operands]) _ hx).1
    refine ⟨.int .i64 k, fun w _ => ?_, rfl, trivial⟩
    simp [execOp, resolve, invoke, builtin, Builtin.len_, hv, run_underlying ht, goInt]
end
end
end Go.Proofs.YtnhbdldchoepfaaDoor

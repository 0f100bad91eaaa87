/- Short words for walks. For any program. -/
import Derived.Test.YtdieokoenhncfaaGreatDoorG
import Derived.Test.YtdieokoenhncfaaGreatDoorQ
import Derived.Test.YtdieokoenhncfaaGreatDoorM
import Derived.Test.YtdieokoenhncfaaGreatDoorL
import Derived.WalkKit
import Derived.WalkSpells
import Derived.WalkLawsBesides
import Derived.Deep.LoopGhost
import Derived.Lib.LaidTab
import Derived.Lib.Hide
import Derived.IntWalk
set_option maxRecDepth 3000
namespace Go.Proofs.YtdieokoenhncfaaGreatDoor
open Go.RowKit Limb
theorem jj {α : Type} {a : α} : a = a := rfl
section
variable {P : Program} {En : Ev} {n : Nat} {w0 : World} {h0 : GH} {c : Cx} {K : Exit → St → Prop} {σ : St} {full rest : List Oper} {acc : List Eff} {sl : Sl} {bx : Bx}
variable {d : Nat} {op : Op} {ty : TypeId} {pos : String} {after : Array Edge} {sd : SD} {rb : List Nat} {y : Nat × List Pd} {g tt : Nat} {b : Bool}
theorem jn (hk : K .normal σ) (hok : dZh n full acc.reverse = true := by kernel_rfl) : RG P En n full [] acc K σ := RG.nil hok hk
theorem jk (t : RG P En n full rest (⟨.one (ex undef), [], []⟩ :: acc) K ⟨(d, .one (ex undef)) :: sl, bx⟩) (hd : (full.toArray[g]?).bind (·.dst) = some tt := by exact rfl) (ht : look sl tt = some (.one (ex (.bool (!b)))) := by exact rfl) : RG P En n full (⟨some d, op, ty, pos, after, some (g, b)⟩ :: rest) acc K ⟨sl, bx⟩ := RG.S0 (LT.skip rfl hd ht) t
theorem ju (t : RG P En n full rest (⟨.one (ex undef), [], []⟩ :: acc) K ⟨(d, .one (ex undef)) :: sl, bx⟩) (hd : (full.toArray[g]?).bind (·.dst) = some tt := by exact rfl) (ht : look sl tt = some (.one (ex undef)) := by exact rfl) : RG P En n full (⟨some d, op, ty, pos, after, some (g, b)⟩ :: rest) acc K ⟨sl, bx⟩ := RG.S0 (LT.skipU rfl hd ht) t
theorem jg (h : RT P En n ⟨some d, op, ty, pos, after, some (g, b)⟩ sl bx ⟨sd, rb, []⟩) (t : RG P En n full rest (⟨sd, rb, []⟩ :: acc) K ⟨(d, sd) :: sl, bx⟩) (hd : (full.toArray[g]?).bind (·.dst) = some tt := by exact rfl) (ht : look sl tt = some (.one (ex (.bool b))) := by exact rfl) : RG P En n full (⟨some d, op, ty, pos, after, some (g, b)⟩ :: rest) acc K ⟨sl, bx⟩ := RG.S0 (LT.run rfl hd ht h) t
theorem jG (h : RT P En n ⟨some d, op, ty, pos, after, some (g, b)⟩ sl bx ⟨sd, rb, [y]⟩) (t : RG P En n full rest (⟨sd, rb, [y]⟩ :: acc) K ⟨(d, sd) :: sl, y :: bx⟩) (hd : (full.toArray[g]?).bind (·.dst) = some tt := by exact rfl) (ht : look sl tt = some (.one (ex (.bool b))) := by exact rfl) : RG P En n full (⟨some d, op, ty, pos, after, some (g, b)⟩ :: rest) acc K ⟨sl, bx⟩ := RG.S1 (LT.run rfl hd ht h) t
theorem jt {cc : Operand} {x y : Code} (hc : osd σ.sl cc = some (.one (ex (.bool true)))) (h : WpD P En n w0 h0 c x K σ) : WpD P En n w0 h0 c (.cond cc x y) K σ := WpD.condT hc h
theorem jf {cc : Operand} {x y : Code} (hc : osd σ.sl cc = some (.one (ex (.bool false)))) (h : WpD P En n w0 h0 c y K σ) : WpD P En n w0 h0 c (.cond cc x y) K σ := WpD.condF hc h
theorem jp (h : K .normal σ) : WpD P En n w0 h0 c .skip K σ := WpD.skip h
theorem je {id : Nat} (h : K (.exit id) σ) : WpD P En n w0 h0 c (.exit id) K σ := WpD.exit h
theorem ji (h : K .ret σ) : WpD P En n w0 h0 c .ret K σ := WpD.ret h
end
section
variable {P : Program} {En : Ev} {n : Nat} {sl : Sl} {bx : Bx} {dst : Option Tmp} {ty : TypeId} {pos : String} {after : Array Edge} {guard : Option (Nat × Bool)} {T T' : TypeId} {x y : Operand} {k : IntKind} {u v r : Int}
theorem bLt (hx : osd sl x = some (.one (ex (.int k u)))) (hy : osd sl y = some (.one (ex (.int k v)))) (h : u < v := by first | assumption | omega) : RT P En n ⟨dst, .binOp .lss T x y T', ty, pos, after, guard⟩ sl bx ⟨.one (ex (.bool true)), [], []⟩ := aZd hx hy (fun w => aZw w _ _ _ _ _ _) (aZm (decide_eq_true h))
theorem bLf (hx : osd sl x = some (.one (ex (.int k u)))) (hy : osd sl y = some (.one (ex (.int k v)))) (h : ¬ u < v := by first | assumption | omega) : RT P En n ⟨dst, .binOp .lss T x y T', ty, pos, after, guard⟩ sl bx ⟨.one (ex (.bool false)), [], []⟩ := aZd hx hy (fun w => aZw w _ _ _ _ _ _) (aZm (decide_eq_false h))
theorem bMt (hx : osd sl x = some (.one (ex (.int k u)))) (hy : osd sl y = some (.one (ex (.int k v)))) (h : u ≤ v := by first | assumption | omega) : RT P En n ⟨dst, .binOp .leq T x y T', ty, pos, after, guard⟩ sl bx ⟨.one (ex (.bool true)), [], []⟩ := aZd hx hy (fun w => bZt w _ _ _ _ _ _) (aZm (decide_eq_true h))
theorem bMf (hx : osd sl x = some (.one (ex (.int k u)))) (hy : osd sl y = some (.one (ex (.int k v)))) (h : ¬ u ≤ v := by first | assumption | omega) : RT P En n ⟨dst, .binOp .leq T x y T', ty, pos, after, guard⟩ sl bx ⟨.one (ex (.bool false)), [], []⟩ := aZd hx hy (fun w => bZt w _ _ _ _ _ _) (aZm (decide_eq_false h))
theorem bGt (hx : osd sl x = some (.one (ex (.int k u)))) (hy : osd sl y = some (.one (ex (.int k v)))) (h : u > v := by first | assumption | omega) : RT P En n ⟨dst, .binOp .gtr T x y T', ty, pos, after, guard⟩ sl bx ⟨.one (ex (.bool true)), [], []⟩ := aZd hx hy (fun w => aZM w _ _ _ _ _ _) (aZm (decide_eq_true h))
theorem bGf (hx : osd sl x = some (.one (ex (.int k u)))) (hy : osd sl y = some (.one (ex (.int k v)))) (h : ¬ u > v := by first | assumption | omega) : RT P En n ⟨dst, .binOp .gtr T x y T', ty, pos, after, guard⟩ sl bx ⟨.one (ex (.bool false)), [], []⟩ := aZd hx hy (fun w => aZM w _ _ _ _ _ _) (aZm (decide_eq_false h))
theorem bHt (hx : osd sl x = some (.one (ex (.int k u)))) (hy : osd sl y = some (.one (ex (.int k v)))) (h : u ≥ v := by first | assumption | omega) : RT P En n ⟨dst, .binOp .geq T x y T', ty, pos, after, guard⟩ sl bx ⟨.one (ex (.bool true)), [], []⟩ := aZd hx hy (fun w => bZi w _ _ _ _ _ _) (aZm (decide_eq_true h))
theorem bHf (hx : osd sl x = some (.one (ex (.int k u)))) (hy : osd sl y = some (.one (ex (.int k v)))) (h : ¬ u ≥ v := by first | assumption | omega) : RT P En n ⟨dst, .binOp .geq T x y T', ty, pos, after, guard⟩ sl bx ⟨.one (ex (.bool false)), [], []⟩ := aZd hx hy (fun w => bZi w _ _ _ _ _ _) (aZm (decide_eq_false h))
theorem bEt (hx : osd sl x = some (.one (ex (.int k u)))) (hy : osd sl y = some (.one (ex (.int k v)))) (h : u = v := by first | assumption | omega) : RT P En n ⟨dst, .binOp .eql T x y T', ty, pos, after, guard⟩ sl bx ⟨.one (ex (.bool true)), [], []⟩ := aZd hx hy (fun w => aZ4 w _ _ _ _ _ _) (aZm (beqT h))
theorem bEf (hx : osd sl x = some (.one (ex (.int k u)))) (hy : osd sl y = some (.one (ex (.int k v)))) (h : u ≠ v := by first | assumption | omega) : RT P En n ⟨dst, .binOp .eql T x y T', ty, pos, after, guard⟩ sl bx ⟨.one (ex (.bool false)), [], []⟩ := aZd hx hy (fun w => aZ4 w _ _ _ _ _ _) (aZm (beqF h))
theorem bNt (hx : osd sl x = some (.one (ex (.int k u)))) (hy : osd sl y = some (.one (ex (.int k v)))) (h : u ≠ v := by first | assumption | omega) : RT P En n ⟨dst, .binOp .neq T x y T', ty, pos, after, guard⟩ sl bx ⟨.one (ex (.bool true)), [], []⟩ := aZd hx hy (fun w => bZs w _ _ _ _ _ _) (aZm (bneT h))
theorem bNf (hx : osd sl x = some (.one (ex (.int k u)))) (hy : osd sl y = some (.one (ex (.int k v)))) (h : u = v := by first | assumption | omega) : RT P En n ⟨dst, .binOp .neq T x y T', ty, pos, after, guard⟩ sl bx ⟨.one (ex (.bool false)), [], []⟩ := aZd hx hy (fun w => bZs w _ _ _ _ _ _) (aZm (bneF h))
theorem bAd (hx : osd sl x = some (.one (ex (.int k u)))) (hy : osd sl y = some (.one (ex (.int k v)))) (h : k.wrap (u + v) = r) : RT P En n ⟨dst, .binOp .add T x y T', ty, pos, after, guard⟩ sl bx ⟨.one (ex (.int k r)), [], []⟩ := aZd hx hy (fun w => cZB w _ _ _ _ _ _) (vint h)
theorem bSu (hx : osd sl x = some (.one (ex (.int k u)))) (hy : osd sl y = some (.one (ex (.int k v)))) (h : k.wrap (u - v) = r) : RT P En n ⟨dst, .binOp .sub T x y T', ty, pos, after, guard⟩ sl bx ⟨.one (ex (.int k r)), [], []⟩ := aZd hx hy (fun w => aZQ w _ _ _ _ _ _) (vint h)
theorem bMu (hx : osd sl x = some (.one (ex (.int k u)))) (hy : osd sl y = some (.one (ex (.int k v)))) (h : k.wrap (u * v) = r) : RT P En n ⟨dst, .binOp .mul T x y T', ty, pos, after, guard⟩ sl bx ⟨.one (ex (.int k r)), [], []⟩ := aZd hx hy (fun w => hZj w _ _ _ _ _ _) (vint h)
theorem bRe (hx : osd sl x = some (.one (ex (.int k u)))) (hy : osd sl y = some (.one (ex (.int k v)))) (h : u.tmod v = r) (hv : v ≠ 0 := by first | decide | omega | assumption) : RT P En n ⟨dst, .binOp .rem T x y T', ty, pos, after, guard⟩ sl bx ⟨.one (ex (.int k r)), [], []⟩ := aZd hx hy (fun w => bZn w _ _ _ _ _ _ hv) (vint h)
theorem bQu (hx : osd sl x = some (.one (ex (.int k u)))) (hy : osd sl y = some (.one (ex (.int k v)))) (h : k.wrap (u.tdiv v) = r) (hv : v ≠ 0 := by first | decide | omega | assumption) : RT P En n ⟨dst, .binOp .quo T x y T', ty, pos, after, guard⟩ sl bx ⟨.one (ex (.int k r)), [], []⟩ := aZd hx hy (fun w => kZT w _ _ _ _ _ _ hv) (vint h)
theorem bCv {S : TypeId} {k' : IntKind} [hS : CInt P S k'] [hT : CInt P T k] (hx : osd sl x = some (.one (ex (.int k' u)))) (h : k.wrap u = r) : RT P En n ⟨dst, .convert S T x, ty, pos, after, guard⟩ sl bx ⟨.one (ex (.int k r)), [], []⟩ := iZq hx (fun w => bZx w CInt.ok CInt.ok _ _) (vint h)
theorem bNo {q : Bool} (hx : osd sl x = some (.one (ex (.bool q)))) : RT P En n ⟨dst, .unOp .not T x, ty, pos, after, guard⟩ sl bx ⟨.one (ex (.bool (!q))), [], []⟩ := rt_un hx (fun w => run_not w _)
end
section
variable {P : Program} {En : Ev} {n : Nat} {K : Exit → St → Prop} {full rest : List Oper} {acc : List Eff} {sl : Sl} {bx : Bx}
variable {d : Nat} {ty : TypeId} {pos : String} {after : Array Edge}
theorem jA {T : TypeId} {vs : List Value} [CZero P T vs] {ps : List Pd} (hd : Nat.blt d 500 = true) (hn : look bx d = none) (hp : vs.map ex = ps) (t : RG P En n full rest (⟨.ptr d 0, [], [(d, ps)]⟩ :: acc) K ⟨(d, .ptr d 0) :: sl, (d, ps) :: bx⟩) : RG P En n full (⟨some d, .alloc T, ty, pos, after, none⟩ :: rest) acc K ⟨sl, bx⟩ := jT (dZb hd hn hp) t
theorem jB {T : TypeId} {x : Operand} {ps : List Pd} (hx : osd sl x = some (.one (aggP ps))) (hd : Nat.blt d 500 = true) (hn : look bx d = none) (t : RG P En n full rest (⟨.ptr d 0, [], [(d, ps)]⟩ :: acc) K ⟨(d, .ptr d 0) :: sl, (d, ps) :: bx⟩) : RG P En n full (⟨some d, .box T x, ty, pos, after, none⟩ :: rest) acc K ⟨sl, bx⟩ := jT (ru_boxR hx hd hn) t
theorem jF {S : TypeId} {x : Operand} {f off b o : Nat} [CField P S f off] (hx : osd sl x = some (.ptr b o)) {o' : Nat} (ho : o + off = o') (t : RG P En n full rest (⟨.ptr b o', [], []⟩ :: acc) K ⟨(d, .ptr b o') :: sl, bx⟩) : RG P En n full (⟨some d, .fieldAddr S x f, ty, pos, after, none⟩ :: rest) acc K ⟨sl, bx⟩ := jS (bZv hx ho) t
theorem jl {T : TypeId} {x : Operand} {b o : Nat} {ps : List Pd} {p : Pd} [COne P T] (hx : osd sl x = some (.ptr b o)) (hb : look bx b = some ps) (hp : ps[o]? = some p) (t : RG P En n full rest (⟨.one p, [b], []⟩ :: acc) K ⟨(d, .one p) :: sl, bx⟩) : RG P En n full (⟨some d, .load T x, ty, pos, after, none⟩ :: rest) acc K ⟨sl, bx⟩ := jS (aZt hx hb hp) t
theorem jP {T : TypeId} {x y : Operand} {b k o : Nat} {ps qs rs : List Pd} [CRow P T k] (hx : osd sl x = some (.ptr b o)) (hy : osd sl y = some (.one (aggP qs))) (hb : look bx b = some ps) (hr : putL ps o qs = rs) (t : RG P En n full rest (⟨.one (ex undef), [b], [(b, rs)]⟩ :: acc) K ⟨sl, (b, rs) :: bx⟩) (hq : Nat.beq qs.length k = true := by exact rfl) (hk : Nat.ble (o + k) ps.length = true := by exact rfl) (hp : Nat.blt 0 k = true := by exact rfl) : RG P En n full (⟨none, .store T x y, ty, pos, after, none⟩ :: rest) acc K ⟨sl, bx⟩ := jO (cZd hx hy hb hq hk hr hp) t
theorem jL {T : TypeId} {x : Operand} {b k o : Nat} {ps qs : List Pd} [CRow P T k] (hx : osd sl x = some (.ptr b o)) (hb : look bx b = some ps) (hq : (ps.drop o).take k = qs) (t : RG P En n full rest (⟨.one (aggP qs), [b], []⟩ :: acc) K ⟨(d, .one (aggP qs)) :: sl, bx⟩) (hk : Nat.ble (o + k) ps.length = true := by exact rfl) : RG P En n full (⟨some d, .load T x, ty, pos, after, none⟩ :: rest) acc K ⟨sl, bx⟩ := jS (aZ2 hx hb hk hq) t
theorem jE {x : Operand} {T E : TypeId} {p : Pd} {k : Nat} [CLen p k] [CSlice P T E] (hx : osd sl x = some (.one p)) (t : RG P En n full rest (⟨.one (ex (.int .i64 k)), [], []⟩ :: acc) K ⟨(d, .one (ex (.int .i64 k))) :: sl, bx⟩) : RG P En n full (⟨some d, .call ⟨.builtin .len, #[x], #[T]⟩, ty, pos, after, none⟩ :: rest) acc K ⟨sl, bx⟩ := jS (bZd hx CSlice.ok) t
theorem jq {q x y : Operand} {sd : SD} (hc : osd sl q = some (.one (ex (.bool true)))) (hx : osd sl x = some sd) (t : RG P En n full rest (⟨sd, [], []⟩ :: acc) K ⟨(d, sd) :: sl, bx⟩) : RG P En n full (⟨some d, .pick q x y, ty, pos, after, none⟩ :: rest) acc K ⟨sl, bx⟩ := jS (aZn hc hx) t
theorem jQ {q x y : Operand} {sd : SD} (hc : osd sl q = some (.one (ex (.bool false)))) (hx : osd sl y = some sd) (t : RG P En n full rest (⟨sd, [], []⟩ :: acc) K ⟨(d, sd) :: sl, bx⟩) : RG P En n full (⟨some d, .pick q x y, ty, pos, after, none⟩ :: rest) acc K ⟨sl, bx⟩ := jS (aZj hc hx) t
theorem jx' {x : Operand} {i : Nat} {ps : List Pd} {p : Pd} (hx : osd sl x = some (.one (tupP ps))) (hp : ps[i]? = some p) (t : RG P En n full rest (⟨.one p, [], []⟩ :: acc) K ⟨(d, .one p) :: sl, bx⟩) : RG P En n full (⟨some d, .extract x i, ty, pos, after, none⟩ :: rest) acc K ⟨sl, bx⟩ := jS (iZp hx hp) t
theorem jgm {g tt : Nat} {b : Bool} {x : Operand} {sd : SD} (hx : osd sl x = some sd) (t : RG P En n full rest (⟨sd, [], []⟩ :: acc) K ⟨(d, sd) :: sl, bx⟩) (hd : (full.toArray[g]?).bind (·.dst) = some tt := by exact rfl) (ht : look sl tt = some (.one (ex (.bool b))) := by exact rfl) : RG P En n full (⟨some d, .move x, ty, pos, after, some (g, b)⟩ :: rest) acc K ⟨sl, bx⟩ := jg (aZK hx) t hd ht
theorem jgf {g tt : Nat} {q : Bool} {S : TypeId} {x : Operand} {f off b o o' : Nat} [CField P S f off] (hx : osd sl x = some (.ptr b o)) (ho : o + off = o') (t : RG P En n full rest (⟨.ptr b o', [], []⟩ :: acc) K ⟨(d, .ptr b o') :: sl, bx⟩) (hd : (full.toArray[g]?).bind (·.dst) = some tt := by exact rfl) (ht : look sl tt = some (.one (ex (.bool q))) := by exact rfl) : RG P En n full (⟨some d, .fieldAddr S x f, ty, pos, after, some (g, q)⟩ :: rest) acc K ⟨sl, bx⟩ := jg (bZv hx ho) t hd ht
theorem jgl {g tt : Nat} {q : Bool} {T : TypeId} {x : Operand} {b o : Nat} {ps : List Pd} {p : Pd} [COne P T] (hx : osd sl x = some (.ptr b o)) (hb : look bx b = some ps) (hp : ps[o]? = some p) (t : RG P En n full rest (⟨.one p, [b], []⟩ :: acc) K ⟨(d, .one p) :: sl, bx⟩) (hd : (full.toArray[g]?).bind (·.dst) = some tt := by exact rfl) (ht : look sl tt = some (.one (ex (.bool q))) := by exact rfl) : RG P En n full (⟨some d, .load T x, ty, pos, after, some (g, q)⟩ :: rest) acc K ⟨sl, bx⟩ := jg (aZt hx hb hp) t hd ht
theorem rtT {σ : St} {fn : Func} {t : Nat} {p : Pd} (hf : fn.results = #[.tmp t]) (h : look σ.sl t = some (.one p)) : fZD P fn σ p := ret1 hf (.tmp h) (PLe.refl _)
theorem rtC {σ : St} {fn : Func} {t b k : Nat} {T : TypeId} {ps : List Pd} [CRow P T k] (hf : fn.results = #[.cell t T]) (h : look σ.sl t = some (.ptr b 0)) (hb : look σ.bx b = some ps) (hk : Nat.beq ps.length k = true := by exact rfl) : fZD P fn σ (aggP ps) := ret1 hf (.cell h hb CRow.ok hk) (PLe.refl _)
theorem rtD {σ : St} {fn : Func} {t b k u : Nat} {T : TypeId} {ps : List Pd} {p : Pd} [CRow P T k] (hf : fn.results = #[.cell t T, .tmp u]) (h : look σ.sl t = some (.ptr b 0)) (hb : look σ.bx b = some ps) (hu : look σ.sl u = some (.one p)) (hk : Nat.beq ps.length k = true := by exact rfl) : fZD P fn σ (tupP [aggP ps, p]) := ret2 hf (.cell h hb CRow.ok hk) (.tmp hu) (PLe.refl _)
theorem jV {s l : Sl} {bs : Bx} {t : Nat} {p q : Pd} (h : look s t = some (.one q)) (r : dZu s bs l) (e : PLe q p := by exact PLe.refl _) : dZu s bs ((t, .one p) :: l) := ⟨⟨_, h, e⟩, trivial, r⟩
end
theorem wS (i : Nat) (h : i < 9223372036854775807) : IntKind.i64.wrap ((i : Int) + 1) = ((i + 1 : Nat) : Int) := by rw [IntWalk.i64_in _ ⟨by omega, by omega⟩]; rfl
theorem gmem {α : Type} {l : List α} {k : Nat} (d : α) (h : k < l.length) : l.getD k d ∈ l := by simp [List.getD, List.getElem?_eq_getElem h]
end Go.Proofs.YtdieokoenhncfaaGreatDoor
/- Integers as a sign and limbs. For any program. -/
namespace Go.Proofs.YtdieokoenhncfaaGreatDoor
open Go.RowKit Limb
def sgnZ (s : Bool) (x : Nat) : Int := if s then -(x : Int) else (x : Int)
def zv (s : Bool) (l : List Nat) : Int := sgnZ s (val l)
def zR (s : Bool) (l : List Nat) : Pd := aggP [ex (.bool s), mag l]
def zC (z : Int) : Pd := zR (decide (z < 0)) (digs z.natAbs)
instance (s : Bool) (l : List Nat) : CPart (zR s l) [ex (.bool s), mag l] := ⟨.inr rfl⟩
instance (z : Int) : CPart (zC z) [ex (.bool (decide (z < 0))), mag (digs z.natAbs)] := ⟨.inr rfl⟩
def dZ8 (z : Int) : List Pd := [ex (.bool (decide (z < 0))), mag (digs z.natAbs)]
theorem zv_C (z : Int) : zv (decide (z < 0)) (digs z.natAbs) = z := by
 unfold zv sgnZ
 rw [aZq]
 by_cases h : z < 0
 ·rw [decide_eq_true h]; simp; omega
 ·rw [decide_eq_false h]; simp; omega
theorem hZb : PLe (aggP [ex (.bool false), ex (.slice none 0 0)]) (zC 0) := by
 rintro h v ⟨vs, rfl, ha⟩
 obtain ⟨u, x, rfl, hu, hx⟩ := ha.two
 exact ⟨_, rfl, hu, hx.2.1, eZl _ _ hx.1, hx.2.2, trivial⟩
theorem dZI (s : Bool) (x : Nat) : (sgnZ s x).natAbs = x := by unfold sgnZ; cases s <;> simp
theorem gZW (s : Bool) (l : List Nat) : (zv s l).natAbs = val l := dZI s _
theorem kZN {s : Bool} {x : Nat} (hx : x ≠ 0) : decide (sgnZ s x < 0) = s := by unfold sgnZ; cases s <;> simp <;> omega
theorem zC_sgn {s : Bool} {x : Nat} (hx : x ≠ 0) : zC (sgnZ s x) = aggP [ex (.bool s), mag (digs x)] := by
 unfold zC zR
 rw [kZN hx, dZI]
theorem eZw (n : Nat) : (((digs n).length : Int) == 0) = decide (n = 0) := by
 by_cases h : n = 0
 ·subst h; rfl
 ·rw [decide_eq_false h, aZF h]; simp; omega
theorem aZZ {l : List Nat} {k : Nat} (h : l.length ≤ k) (hl : Lm l) : (digs (val l)).length ≤ k := Nat.le_trans (aZ7 (bZp hl)) h
theorem hZh (s t : Bool) (x y : Nat) : sgnZ s x * sgnZ t y = sgnZ (s != t) (x * y) := by
 unfold sgnZ; cases s <;> cases t <;> simp [Int.neg_mul, Int.mul_neg]
theorem bZF {X Y q r : Int} (hY : Y ≠ 0) (h : X = Y * q + r) (h0 : 0 ≤ r) (h1 : r < Y.natAbs) : X / Y = q ∧ X % Y = r := by
 have hm : X % Y = r := by
  rw [h, Int.mul_add_emod_self_left]
  rcases Int.lt_or_lt_of_ne hY with hn | hp
  ·rw [← Int.emod_neg]; exact Int.emod_eq_of_lt h0 (by omega)
  ·exact Int.emod_eq_of_lt h0 (by omega)
 refine ⟨?_, hm⟩
 have h2 := Int.mul_ediv_add_emod X Y
 rw [hm, h] at h2
 have h3 : Y * ((Y * q + r) / Y) = Y * q := by omega
 rw [h]
 exact Int.eq_of_mul_eq_mul_left hY h3
theorem mZu {s s' : Bool} {x y : Nat} (hy : y ≠ 0) (h : s = false ∨ x % y = 0) : sgnZ s x / sgnZ s' y = sgnZ (s != s') (x / y) ∧ sgnZ s x % sgnZ s' y = ((x % y : Nat) : Int) := by
 have e := Nat.div_add_mod x y
 have hlt := Nat.mod_lt x (Nat.pos_of_ne_zero hy)
 have ec : (x : Int) = (y : Int) * ((x / y : Nat) : Int) + ((x % y : Nat) : Int) := by exact_mod_cast e.symm
 refine bZF (by unfold sgnZ; split <;> omega) ?_ (by omega) (by rw [dZI]; omega)
 unfold sgnZ
 generalize ((x / y : Nat) : Int) = q at *
 rcases h with rfl | h
 ·generalize ((x % y : Nat) : Int) = r at *
  cases s' <;> simp [Int.neg_mul, Int.mul_neg] <;> omega
 ·rw [h] at ec ⊢
  cases s <;> cases s' <;> simp [Int.neg_mul, Int.mul_neg] <;> omega
theorem kZP {s' : Bool} {x y : Nat} (hy : y ≠ 0) (h : x % y ≠ 0) : sgnZ true x / sgnZ s' y = sgnZ (!s') (x / y + 1) ∧ sgnZ true x % sgnZ s' y = ((y - x % y : Nat) : Int) := by
 have e := Nat.div_add_mod x y
 have hlt := Nat.mod_lt x (Nat.pos_of_ne_zero hy)
 have ec : (x : Int) = (y : Int) * ((x / y : Nat) : Int) + ((x % y : Nat) : Int) := by exact_mod_cast e.symm
 refine bZF (by unfold sgnZ; split <;> omega) ?_ (by omega) (by rw [dZI]; omega)
 rw [Int.ofNat_sub (by omega)]
 unfold sgnZ
 rw [show ((x / y + 1 : Nat) : Int) = ((x / y : Nat) : Int) + 1 from rfl]
 generalize ((x / y : Nat) : Int) = q at *
 generalize ((x % y : Nat) : Int) = r at *
 cases s' <;> simp [Int.neg_mul, Int.mul_neg, Int.mul_add] <;> omega
end Go.Proofs.YtdieokoenhncfaaGreatDoor
/- Small facts on worlds, blocks and slices, for any program. -/
namespace Go.Proofs.YtdieokoenhncfaaGreatDoor
open Go.RowKit
theorem dZQ (b o j : Nat) : (⟨b, o, none⟩ : Addr).add j = ⟨b, o + j, none⟩ := by
 unfold Addr.add
 by_cases h : j = 0
 ·subst h; rfl
 ·rw [if_neg h]
theorem kZy (w : World) (b : Nat) (hb : b = w.heap.size) (xs : List Value) (t : TypeId) : ∀ j u, xs[j]? = some u → (w.alloc (.cells xs.toArray t)).cell? ((⟨b, 0, none⟩ : Addr).add j) = some u := by
 intro j u h
 subst hb
 rw [dZQ, World.cell?_alloc_new]
 simpa using h
def Rd (w : World) (v : Value) (n : Nat) (xs : List Value) : Prop :=
 ∃ a cap, v = .slice a n cap ∧ n ≤ cap ∧ (cap ≤ maxLen ∧ (a = none → cap = 0)) ∧ (xs ≠ [] → ∃ b off, a = some ⟨b, off, none⟩ ∧ b < w.heap.size ∧ ∀ j u, xs[j]? = some u → w.cell? ⟨b, off + j, none⟩ = some u)
theorem Rd.below {w w' : World} {v : Value} {n : Nat} {xs : List Value} (h : Rd w v n xs) (hb : Below w.heap.size w w') : Rd w' v n xs := by
 obtain ⟨a, cap, rfl, h1, h2, h3⟩ := h
 refine ⟨a, cap, rfl, h1, h2, fun hx => ?_⟩
 obtain ⟨b, off, rfl, hlt, hc⟩ := h3 hx
 refine ⟨b, off, rfl, Nat.lt_of_lt_of_le hlt hb.size, fun j u hj => ?_⟩
 rw [hb.cell (p := ⟨b, off + j, none⟩) hlt]
 exact hc j u hj
theorem Rd.of_owns {w : World} {base e size : Nat} {v : Value} {n : Nat} {xs : List Value} (h : w.ownsRow base e size v n xs) : Rd w v n xs := by
 have hc := @World.ownsRow.cells w base e size v n xs h
 obtain ⟨h1, h2⟩ := h
 rcases h2 with ⟨rfl, rfl⟩ | ⟨g, cap, cur, rfl, _, hg, hn, hm, hs, ht⟩
 ·refine ⟨none, 0, rfl, by omega, ⟨by unfold maxLen; omega, fun _ => rfl⟩, fun hx => ?_⟩
  rw [Nat.zero_mul] at h1
  exact absurd (List.length_eq_zero_iff.1 h1) hx
 ·refine ⟨some ⟨g, 0, none⟩, cap, rfl, hn, ⟨hm, fun h => by cases h⟩, fun _ => ⟨g, 0, rfl, (Array.getElem?_eq_some_iff.1 hg).1, fun j u hj => ?_⟩⟩
  have := hc rfl j u hj
  rwa [dZQ] at this
theorem Rd.nil (w : World) : Rd w (.slice none 0 0) 0 [] := ⟨none, 0, rfl, by omega, ⟨by unfold maxLen; omega, fun _ => rfl⟩, fun h => absurd rfl h⟩
end Go.Proofs.YtdieokoenhncfaaGreatDoor

/- Short words for walks. For any program. -/
import Derived.Test.YtdieokoenhncfaaGreatDoorG
import Derived.Test.YtdieokoenhncfaaGreatDoorQ
import Derived.Test.YtdieokoenhncfaaGreatDoorM
import Derived.Test.YtdieokoenhncfaaGreatDoorL
import Derived.WalkKit
import Derived.WalkSpells
import Derived.WalkLawsBesides
import Derived.Deep.LoopGhost
import Derived.Lib.LaidTab
import Derived.Lib.Hide
import Derived.IntWalk
import Derived.Test.YtdieokoenhncfaaGreatDoorProg
import Derived.Deep.QuietTactic
import Derived.BigQuiet
import Derived.Deep.RegionHeld3
import Derived.Laws.BitsAllLaws
set_option maxRecDepth 3000
namespace Go.Proofs.YtdieokoenhncfaaGreatDoor
open Go.RowKit Limb
theorem jj {α : Type} {a : α} : a = a := rfl
section
variable {P : Program} {En : Ev} {n : Nat} {w0 : World} {h0 : GH} {c : Cx} {K : Exit → St → Prop} {σ : St} {full rest : List Oper} {acc : List Eff} {sl : Sl} {bx : Bx}
variable {d : Nat} {op : Op} {ty : TypeId} {pos : String} {after : Array Edge} {sd : SD} {rb : List Nat} {y : Nat × List Pd} {g tt : Nat} {b : Bool}
theorem jn (hk : K .normal σ) (hok : okRegion n full acc.reverse = true := by kernel_rfl) : RG P En n full [] acc K σ := RG.nil hok hk
theorem jk (t : RG P En n full rest (⟨.one (ex undef), [], []⟩ :: acc) K ⟨(d, .one (ex undef)) :: sl, bx⟩) (hd : (full.toArray[g]?).bind (·.dst) = some tt := by exact rfl) (ht : look sl tt = some (.one (ex (.bool (!b)))) := by exact rfl) : RG P En n full (⟨some d, op, ty, pos, after, some (g, b)⟩ :: rest) acc K ⟨sl, bx⟩ := RG.S0 (LT.skip rfl hd ht) t
theorem ju (t : RG P En n full rest (⟨.one (ex undef), [], []⟩ :: acc) K ⟨(d, .one (ex undef)) :: sl, bx⟩) (hd : (full.toArray[g]?).bind (·.dst) = some tt := by exact rfl) (ht : look sl tt = some (.one (ex undef)) := by exact rfl) : RG P En n full (⟨some d, op, ty, pos, after, some (g, b)⟩ :: rest) acc K ⟨sl, bx⟩ := RG.S0 (LT.skipU rfl hd ht) t
theorem jg (h : RT P En n ⟨some d, op, ty, pos, after, some (g, b)⟩ sl bx ⟨sd, rb, []⟩) (t : RG P En n full rest (⟨sd, rb, []⟩ :: acc) K ⟨(d, sd) :: sl, bx⟩) (hd : (full.toArray[g]?).bind (·.dst) = some tt := by exact rfl) (ht : look sl tt = some (.one (ex (.bool b))) := by exact rfl) : RG P En n full (⟨some d, op, ty, pos, after, some (g, b)⟩ :: rest) acc K ⟨sl, bx⟩ := RG.S0 (LT.run rfl hd ht h) t
theorem jG (h : RT P En n ⟨some d, op, ty, pos, after, some (g, b)⟩ sl bx ⟨sd, rb, [y]⟩) (t : RG P En n full rest (⟨sd, rb, [y]⟩ :: acc) K ⟨(d, sd) :: sl, y :: bx⟩) (hd : (full.toArray[g]?).bind (·.dst) = some tt := by exact rfl) (ht : look sl tt = some (.one (ex (.bool b))) := by exact rfl) : RG P En n full (⟨some d, op, ty, pos, after, some (g, b)⟩ :: rest) acc K ⟨sl, bx⟩ := RG.S1 (LT.run rfl hd ht h) t
theorem jt {cc : Operand} {x y : Code} (hc : osd σ.sl cc = some (.one (ex (.bool true)))) (h : WpD P En n w0 h0 c x K σ) : WpD P En n w0 h0 c (.cond cc x y) K σ := WpD.condT hc h
theorem jf {cc : Operand} {x y : Code} (hc : osd σ.sl cc = some (.one (ex (.bool false)))) (h : WpD P En n w0 h0 c y K σ) : WpD P En n w0 h0 c (.cond cc x y) K σ := WpD.condF hc h
theorem jp (h : K .normal σ) : WpD P En n w0 h0 c .skip K σ := WpD.skip h
theorem je {id : Nat} (h : K (.exit id) σ) : WpD P En n w0 h0 c (.exit id) K σ := WpD.exit h
theorem ji (h : K .ret σ) : WpD P En n w0 h0 c .ret K σ := WpD.ret h
end
section
variable {P : Program} {En : Ev} {n : Nat} {sl : Sl} {bx : Bx} {dst : Option Tmp} {ty : TypeId} {pos : String} {after : Array Edge} {guard : Option (Nat × Bool)} {T T' : TypeId} {x y : Operand} {k : IntKind} {u v r : Int}
theorem bLt (hx : osd sl x = some (.one (ex (.int k u)))) (hy : osd sl y = some (.one (ex (.int k v)))) (h : u < v := by first | assumption | omega) : RT P En n ⟨dst, .binOp .lss T x y T', ty, pos, after, guard⟩ sl bx ⟨.one (ex (.bool true)), [], []⟩ := rt_bin_to hx hy (fun w => run_lti w _ _ _ _ _ _) (vbool (decide_eq_true h))
theorem bLf (hx : osd sl x = some (.one (ex (.int k u)))) (hy : osd sl y = some (.one (ex (.int k v)))) (h : ¬ u < v := by first | assumption | omega) : RT P En n ⟨dst, .binOp .lss T x y T', ty, pos, after, guard⟩ sl bx ⟨.one (ex (.bool false)), [], []⟩ := rt_bin_to hx hy (fun w => run_lti w _ _ _ _ _ _) (vbool (decide_eq_false h))
theorem bMt (hx : osd sl x = some (.one (ex (.int k u)))) (hy : osd sl y = some (.one (ex (.int k v)))) (h : u ≤ v := by first | assumption | omega) : RT P En n ⟨dst, .binOp .leq T x y T', ty, pos, after, guard⟩ sl bx ⟨.one (ex (.bool true)), [], []⟩ := rt_bin_to hx hy (fun w => run_lei w _ _ _ _ _ _) (vbool (decide_eq_true h))
theorem bMf (hx : osd sl x = some (.one (ex (.int k u)))) (hy : osd sl y = some (.one (ex (.int k v)))) (h : ¬ u ≤ v := by first | assumption | omega) : RT P En n ⟨dst, .binOp .leq T x y T', ty, pos, after, guard⟩ sl bx ⟨.one (ex (.bool false)), [], []⟩ := rt_bin_to hx hy (fun w => run_lei w _ _ _ _ _ _) (vbool (decide_eq_false h))
theorem bGt (hx : osd sl x = some (.one (ex (.int k u)))) (hy : osd sl y = some (.one (ex (.int k v)))) (h : u > v := by first | assumption | omega) : RT P En n ⟨dst, .binOp .gtr T x y T', ty, pos, after, guard⟩ sl bx ⟨.one (ex (.bool true)), [], []⟩ := rt_bin_to hx hy (fun w => run_gti w _ _ _ _ _ _) (vbool (decide_eq_true h))
theorem bGf (hx : osd sl x = some (.one (ex (.int k u)))) (hy : osd sl y = some (.one (ex (.int k v)))) (h : ¬ u > v := by first | assumption | omega) : RT P En n ⟨dst, .binOp .gtr T x y T', ty, pos, after, guard⟩ sl bx ⟨.one (ex (.bool false)), [], []⟩ := rt_bin_to hx hy (fun w => run_gti w _ _ _ _ _ _) (vbool (decide_eq_false h))
theorem bHt (hx : osd sl x = some (.one (ex (.int k u)))) (hy : osd sl y = some (.one (ex (.int k v)))) (h : u ≥ v := by first | assumption | omega) : RT P En n ⟨dst, .binOp .geq T x y T', ty, pos, after, guard⟩ sl bx ⟨.one (ex (.bool true)), [], []⟩ := rt_bin_to hx hy (fun w => run_gei w _ _ _ _ _ _) (vbool (decide_eq_true h))
theorem bHf (hx : osd sl x = some (.one (ex (.int k u)))) (hy : osd sl y = some (.one (ex (.int k v)))) (h : ¬ u ≥ v := by first | assumption | omega) : RT P En n ⟨dst, .binOp .geq T x y T', ty, pos, after, guard⟩ sl bx ⟨.one (ex (.bool false)), [], []⟩ := rt_bin_to hx hy (fun w => run_gei w _ _ _ _ _ _) (vbool (decide_eq_false h))
theorem bEt (hx : osd sl x = some (.one (ex (.int k u)))) (hy : osd sl y = some (.one (ex (.int k v)))) (h : u = v := by first | assumption | omega) : RT P En n ⟨dst, .binOp .eql T x y T', ty, pos, after, guard⟩ sl bx ⟨.one (ex (.bool true)), [], []⟩ := rt_bin_to hx hy (fun w => run_eqi w _ _ _ _ _ _) (vbool (beqT h))
theorem bEf (hx : osd sl x = some (.one (ex (.int k u)))) (hy : osd sl y = some (.one (ex (.int k v)))) (h : u ≠ v := by first | assumption | omega) : RT P En n ⟨dst, .binOp .eql T x y T', ty, pos, after, guard⟩ sl bx ⟨.one (ex (.bool false)), [], []⟩ := rt_bin_to hx hy (fun w => run_eqi w _ _ _ _ _ _) (vbool (beqF h))
theorem bNt (hx : osd sl x = some (.one (ex (.int k u)))) (hy : osd sl y = some (.one (ex (.int k v)))) (h : u ≠ v := by first | assumption | omega) : RT P En n ⟨dst, .binOp .neq T x y T', ty, pos, after, guard⟩ sl bx ⟨.one (ex (.bool true)), [], []⟩ := rt_bin_to hx hy (fun w => run_nei w _ _ _ _ _ _) (vbool (bneT h))
theorem bNf (hx : osd sl x = some (.one (ex (.int k u)))) (hy : osd sl y = some (.one (ex (.int k v)))) (h : u = v := by first | assumption | omega) : RT P En n ⟨dst, .binOp .neq T x y T', ty, pos, after, guard⟩ sl bx ⟨.one (ex (.bool false)), [], []⟩ := rt_bin_to hx hy (fun w => run_nei w _ _ _ _ _ _) (vbool (bneF h))
theorem bAd (hx : osd sl x = some (.one (ex (.int k u)))) (hy : osd sl y = some (.one (ex (.int k v)))) (h : k.wrap (u + v) = r) : RT P En n ⟨dst, .binOp .add T x y T', ty, pos, after, guard⟩ sl bx ⟨.one (ex (.int k r)), [], []⟩ := rt_bin_to hx hy (fun w => run_addi w _ _ _ _ _ _) (vint h)
theorem bSu (hx : osd sl x = some (.one (ex (.int k u)))) (hy : osd sl y = some (.one (ex (.int k v)))) (h : k.wrap (u - v) = r) : RT P En n ⟨dst, .binOp .sub T x y T', ty, pos, after, guard⟩ sl bx ⟨.one (ex (.int k r)), [], []⟩ := rt_bin_to hx hy (fun w => run_subi w _ _ _ _ _ _) (vint h)
theorem bMu (hx : osd sl x = some (.one (ex (.int k u)))) (hy : osd sl y = some (.one (ex (.int k v)))) (h : k.wrap (u * v) = r) : RT P En n ⟨dst, .binOp .mul T x y T', ty, pos, after, guard⟩ sl bx ⟨.one (ex (.int k r)), [], []⟩ := rt_bin_to hx hy (fun w => run_muli w _ _ _ _ _ _) (vint h)
theorem bRe (hx : osd sl x = some (.one (ex (.int k u)))) (hy : osd sl y = some (.one (ex (.int k v)))) (h : u.tmod v = r) (hv : v ≠ 0 := by first | decide | omega | assumption) : RT P En n ⟨dst, .binOp .rem T x y T', ty, pos, after, guard⟩ sl bx ⟨.one (ex (.int k r)), [], []⟩ := rt_bin_to hx hy (fun w => run_remi w _ _ _ _ _ _ hv) (vint h)
theorem bQu (hx : osd sl x = some (.one (ex (.int k u)))) (hy : osd sl y = some (.one (ex (.int k v)))) (h : k.wrap (u.tdiv v) = r) (hv : v ≠ 0 := by first | decide | omega | assumption) : RT P En n ⟨dst, .binOp .quo T x y T', ty, pos, after, guard⟩ sl bx ⟨.one (ex (.int k r)), [], []⟩ := rt_bin_to hx hy (fun w => run_quoi w _ _ _ _ _ _ hv) (vint h)
theorem bCv {S : TypeId} {k' : IntKind} [hS : CInt P S k'] [hT : CInt P T k] (hx : osd sl x = some (.one (ex (.int k' u)))) (h : k.wrap u = r) : RT P En n ⟨dst, .convert S T x, ty, pos, after, guard⟩ sl bx ⟨.one (ex (.int k r)), [], []⟩ := rt_conv_to hx (fun w => run_convi w CInt.ok CInt.ok _ _) (vint h)
theorem bNo {q : Bool} (hx : osd sl x = some (.one (ex (.bool q)))) : RT P En n ⟨dst, .unOp .not T x, ty, pos, after, guard⟩ sl bx ⟨.one (ex (.bool (!q))), [], []⟩ := rt_un hx (fun w => run_not w _)
end
section
variable {P : Program} {En : Ev} {n : Nat} {K : Exit → St → Prop} {full rest : List Oper} {acc : List Eff} {sl : Sl} {bx : Bx}
variable {d : Nat} {ty : TypeId} {pos : String} {after : Array Edge}
theorem jA {T : TypeId} {vs : List Value} [CZero P T vs] {ps : List Pd} (hd : Nat.blt d 500 = true) (hn : look bx d = none) (hp : vs.map ex = ps) (t : RG P En n full rest (⟨.ptr d 0, [], [(d, ps)]⟩ :: acc) K ⟨(d, .ptr d 0) :: sl, (d, ps) :: bx⟩) : RG P En n full (⟨some d, .alloc T, ty, pos, after, none⟩ :: rest) acc K ⟨sl, bx⟩ := jT (ru_alloc hd hn hp) t
theorem jB {T : TypeId} {x : Operand} {ps : List Pd} (hx : osd sl x = some (.one (aggP ps))) (hd : Nat.blt d 500 = true) (hn : look bx d = none) (t : RG P En n full rest (⟨.ptr d 0, [], [(d, ps)]⟩ :: acc) K ⟨(d, .ptr d 0) :: sl, (d, ps) :: bx⟩) : RG P En n full (⟨some d, .box T x, ty, pos, after, none⟩ :: rest) acc K ⟨sl, bx⟩ := jT (ru_boxR hx hd hn) t
theorem jF {S : TypeId} {x : Operand} {f off b o : Nat} [CField P S f off] (hx : osd sl x = some (.ptr b o)) {o' : Nat} (ho : o + off = o') (t : RG P En n full rest (⟨.ptr b o', [], []⟩ :: acc) K ⟨(d, .ptr b o') :: sl, bx⟩) : RG P En n full (⟨some d, .fieldAddr S x f, ty, pos, after, none⟩ :: rest) acc K ⟨sl, bx⟩ := jS (ru_fieldAddr hx ho) t
theorem jl {T : TypeId} {x : Operand} {b o : Nat} {ps : List Pd} {p : Pd} [COne P T] (hx : osd sl x = some (.ptr b o)) (hb : look bx b = some ps) (hp : ps[o]? = some p) (t : RG P En n full rest (⟨.one p, [b], []⟩ :: acc) K ⟨(d, .one p) :: sl, bx⟩) : RG P En n full (⟨some d, .load T x, ty, pos, after, none⟩ :: rest) acc K ⟨sl, bx⟩ := jS (ru_load1 hx hb hp) t
theorem jP {T : TypeId} {x y : Operand} {b k o : Nat} {ps qs rs : List Pd} [CRow P T k] (hx : osd sl x = some (.ptr b o)) (hy : osd sl y = some (.one (aggP qs))) (hb : look bx b = some ps) (hr : putL ps o qs = rs) (t : RG P En n full rest (⟨.one (ex undef), [b], [(b, rs)]⟩ :: acc) K ⟨sl, (b, rs) :: bx⟩) (hq : Nat.beq qs.length k = true := by exact rfl) (hk : Nat.ble (o + k) ps.length = true := by exact rfl) (hp : Nat.blt 0 k = true := by exact rfl) : RG P En n full (⟨none, .store T x y, ty, pos, after, none⟩ :: rest) acc K ⟨sl, bx⟩ := jO (ru_storeR hx hy hb hq hk hr hp) t
theorem jL {T : TypeId} {x : Operand} {b k o : Nat} {ps qs : List Pd} [CRow P T k] (hx : osd sl x = some (.ptr b o)) (hb : look bx b = some ps) (hq : (ps.drop o).take k = qs) (t : RG P En n full rest (⟨.one (aggP qs), [b], []⟩ :: acc) K ⟨(d, .one (aggP qs)) :: sl, bx⟩) (hk : Nat.ble (o + k) ps.length = true := by exact rfl) : RG P En n full (⟨some d, .load T x, ty, pos, after, none⟩ :: rest) acc K ⟨sl, bx⟩ := jS (ru_loadR hx hb hk hq) t
theorem jE {x : Operand} {T E : TypeId} {p : Pd} {k : Nat} [CLen p k] [CSlice P T E] (hx : osd sl x = some (.one p)) (t : RG P En n full rest (⟨.one (ex (.int .i64 k)), [], []⟩ :: acc) K ⟨(d, .one (ex (.int .i64 k))) :: sl, bx⟩) : RG P En n full (⟨some d, .call ⟨.builtin .len, #[x], #[T]⟩, ty, pos, after, none⟩ :: rest) acc K ⟨sl, bx⟩ := jS (ru_len hx CSlice.ok) t
theorem jq {q x y : Operand} {sd : SD} (hc : osd sl q = some (.one (ex (.bool true)))) (hx : osd sl x = some sd) (t : RG P En n full rest (⟨sd, [], []⟩ :: acc) K ⟨(d, sd) :: sl, bx⟩) : RG P En n full (⟨some d, .pick q x y, ty, pos, after, none⟩ :: rest) acc K ⟨sl, bx⟩ := jS (rt_pick_true hc hx) t
theorem jQ {q x y : Operand} {sd : SD} (hc : osd sl q = some (.one (ex (.bool false)))) (hx : osd sl y = some sd) (t : RG P En n full rest (⟨sd, [], []⟩ :: acc) K ⟨(d, sd) :: sl, bx⟩) : RG P En n full (⟨some d, .pick q x y, ty, pos, after, none⟩ :: rest) acc K ⟨sl, bx⟩ := jS (rt_pick_false hc hx) t
theorem jx' {x : Operand} {i : Nat} {ps : List Pd} {p : Pd} (hx : osd sl x = some (.one (tupP ps))) (hp : ps[i]? = some p) (t : RG P En n full rest (⟨.one p, [], []⟩ :: acc) K ⟨(d, .one p) :: sl, bx⟩) : RG P En n full (⟨some d, .extract x i, ty, pos, after, none⟩ :: rest) acc K ⟨sl, bx⟩ := jS (rt_extract hx hp) t
end
theorem wS (i : Nat) (h : i < 9223372036854775807) : IntKind.i64.wrap ((i : Int) + 1) = ((i + 1 : Nat) : Int) := by rw [IntWalk.i64_in _ ⟨by omega, by omega⟩]; rfl
theorem gmem {α : Type} {l : List α} {k : Nat} (d : α) (h : k < l.length) : l.getD k d ∈ l := by simp [List.getD, List.getElem?_eq_getElem h]
end Go.Proofs.YtdieokoenhncfaaGreatDoor
/- Integers as a sign and limbs. For any program. -/
namespace Go.Proofs.YtdieokoenhncfaaGreatDoor
open Go.RowKit Limb
def sgnZ (s : Bool) (x : Nat) : Int := if s then -(x : Int) else (x : Int)
def zv (s : Bool) (l : List Nat) : Int := sgnZ s (val l)
def zR (s : Bool) (l : List Nat) : Pd := aggP [ex (.bool s), mag l]
def zC (z : Int) : Pd := zR (decide (z < 0)) (digs z.natAbs)
instance (s : Bool) (l : List Nat) : CPart (zR s l) [ex (.bool s), mag l] := ⟨.inr rfl⟩
instance (z : Int) : CPart (zC z) [ex (.bool (decide (z < 0))), mag (digs z.natAbs)] := ⟨.inr rfl⟩
def zCells (z : Int) : List Pd := [ex (.bool (decide (z < 0))), mag (digs z.natAbs)]
theorem zv_C (z : Int) : zv (decide (z < 0)) (digs z.natAbs) = z := by
 unfold zv sgnZ
 rw [val_digs]
 by_cases h : z < 0
 ·rw [decide_eq_true h]; simp; omega
 ·rw [decide_eq_false h]; simp; omega
theorem zC_nil : PLe (aggP [ex (.bool false), ex (.slice none 0 0)]) (zC 0) := by
 rintro h v ⟨vs, rfl, ha⟩
 obtain ⟨u, x, rfl, hu, hx⟩ := ha.two
 exact ⟨_, rfl, hu, hx.2.1, mag_nil _ _ hx.1, hx.2.2, trivial⟩
theorem sgnZ_abs (s : Bool) (x : Nat) : (sgnZ s x).natAbs = x := by unfold sgnZ; cases s <;> simp
theorem zv_abs (s : Bool) (l : List Nat) : (zv s l).natAbs = val l := sgnZ_abs s _
theorem sgnZ_neg {s : Bool} {x : Nat} (hx : x ≠ 0) : decide (sgnZ s x < 0) = s := by unfold sgnZ; cases s <;> simp <;> omega
theorem zC_sgn {s : Bool} {x : Nat} (hx : x ≠ 0) : zC (sgnZ s x) = aggP [ex (.bool s), mag (digs x)] := by
 unfold zC zR
 rw [sgnZ_neg hx, sgnZ_abs]
theorem digs_len0 (n : Nat) : (((digs n).length : Int) == 0) = decide (n = 0) := by
 by_cases h : n = 0
 ·subst h; rfl
 ·rw [decide_eq_false h, digs_step h]; simp; omega
theorem digs_lenle {l : List Nat} {k : Nat} (h : l.length ≤ k) (hl : Lm l) : (digs (val l)).length ≤ k := Nat.le_trans (digs_length_le (val_lt hl)) h
theorem sgnZ_mul (s t : Bool) (x y : Nat) : sgnZ s x * sgnZ t y = sgnZ (s != t) (x * y) := by
 unfold sgnZ; cases s <;> cases t <;> simp [Int.neg_mul, Int.mul_neg]
theorem divmod_unique {X Y q r : Int} (hY : Y ≠ 0) (h : X = Y * q + r) (h0 : 0 ≤ r) (h1 : r < Y.natAbs) : X / Y = q ∧ X % Y = r := by
 have hm : X % Y = r := by
  rw [h, Int.mul_add_emod_self_left]
  rcases Int.lt_or_lt_of_ne hY with hn | hp
  ·rw [← Int.emod_neg]; exact Int.emod_eq_of_lt h0 (by omega)
  ·exact Int.emod_eq_of_lt h0 (by omega)
 refine ⟨?_, hm⟩
 have h2 := Int.mul_ediv_add_emod X Y
 rw [hm, h] at h2
 have h3 : Y * ((Y * q + r) / Y) = Y * q := by omega
 rw [h]
 exact Int.eq_of_mul_eq_mul_left hY h3
theorem sdm_up {s s' : Bool} {x y : Nat} (hy : y ≠ 0) (h : s = false ∨ x % y = 0) : sgnZ s x / sgnZ s' y = sgnZ (s != s') (x / y) ∧ sgnZ s x % sgnZ s' y = ((x % y : Nat) : Int) := by
 have e := Nat.div_add_mod x y
 have hlt := Nat.mod_lt x (Nat.pos_of_ne_zero hy)
 have ec : (x : Int) = (y : Int) * ((x / y : Nat) : Int) + ((x % y : Nat) : Int) := by exact_mod_cast e.symm
 refine divmod_unique (by unfold sgnZ; split <;> omega) ?_ (by omega) (by rw [sgnZ_abs]; omega)
 unfold sgnZ
 generalize ((x / y : Nat) : Int) = q at *
 rcases h with rfl | h
 ·generalize ((x % y : Nat) : Int) = r at *
  cases s' <;> simp [Int.neg_mul, Int.mul_neg] <;> omega
 ·rw [h] at ec ⊢
  cases s <;> cases s' <;> simp [Int.neg_mul, Int.mul_neg] <;> omega
theorem sdm_down {s' : Bool} {x y : Nat} (hy : y ≠ 0) (h : x % y ≠ 0) : sgnZ true x / sgnZ s' y = sgnZ (!s') (x / y + 1) ∧ sgnZ true x % sgnZ s' y = ((y - x % y : Nat) : Int) := by
 have e := Nat.div_add_mod x y
 have hlt := Nat.mod_lt x (Nat.pos_of_ne_zero hy)
 have ec : (x : Int) = (y : Int) * ((x / y : Nat) : Int) + ((x % y : Nat) : Int) := by exact_mod_cast e.symm
 refine divmod_unique (by unfold sgnZ; split <;> omega) ?_ (by omega) (by rw [sgnZ_abs]; omega)
 rw [Int.ofNat_sub (by omega)]
 unfold sgnZ
 rw [show ((x / y + 1 : Nat) : Int) = ((x / y : Nat) : Int) + 1 from rfl]
 generalize ((x / y : Nat) : Int) = q at *
 generalize ((x % y : Nat) : Int) = r at *
 cases s' <;> simp [Int.neg_mul, Int.mul_neg, Int.mul_add] <;> omega
end Go.Proofs.YtdieokoenhncfaaGreatDoor
/- Small facts on worlds, blocks and slices, for any program. -/
namespace Go.Proofs.YtdieokoenhncfaaGreatDoor
open Go.RowKit
def Rd (w : World) (v : Value) (n : Nat) (xs : List Value) : Prop :=
 ∃ a cap, v = .slice a n cap ∧ n ≤ cap ∧ (cap ≤ maxLen ∧ (a = none → cap = 0)) ∧ (xs ≠ [] → ∃ b off, a = some ⟨b, off, none⟩ ∧ b < w.heap.size ∧ ∀ j u, xs[j]? = some u → w.cell? ⟨b, off + j, none⟩ = some u)
theorem Rd.below {w w' : World} {v : Value} {n : Nat} {xs : List Value} (h : Rd w v n xs) (hb : Below w.heap.size w w') : Rd w' v n xs := by
 obtain ⟨a, cap, rfl, h1, h2, h3⟩ := h
 refine ⟨a, cap, rfl, h1, h2, fun hx => ?_⟩
 obtain ⟨b, off, rfl, hlt, hc⟩ := h3 hx
 refine ⟨b, off, rfl, Nat.lt_of_lt_of_le hlt hb.size, fun j u hj => ?_⟩
 rw [hb.cell (p := ⟨b, off + j, none⟩) hlt]
 exact hc j u hj
theorem Rd.nil (w : World) : Rd w (.slice none 0 0) 0 [] := ⟨none, 0, rfl, by omega, ⟨by unfold maxLen; omega, fun _ => rfl⟩, fun h => absurd rfl h⟩
end Go.Proofs.YtdieokoenhncfaaGreatDoor
namespace Go.Proofs.YtdieokoenhncfaaGreatDoor
open Go.RowKit Limb
theorem ret_int' {k : IntKind} {a b : Int} (h : a = b) : Ending.returned (.int k a) = .returned (.int k b) := by rw [h]
theorem ret_bool' {a b : Bool} (h : a = b) : Ending.returned (.bool a) = .returned (.bool b) := by rw [h]
def limbCells (l : List Nat) : List Value := l.map fun x => .int .u32 (x : Nat)
theorem limbCells_length (l : List Nat) : (limbCells l).length = l.length := by simp [limbCells]
theorem limbCells_get {l : List Nat} {i x : Nat} (h : l[i]? = some x) : (limbCells l)[i]? = some (.int .u32 (x : Nat)) := by simp [limbCells, h]
def Mg (w : World) (v : Value) (l : List Nat) : Prop := Rd w v l.length (limbCells l) ∧ Lm l
theorem Mg.below {w w' : World} {v : Value} {l : List Nat} (h : Mg w v l) (hb : Below w.heap.size w w') : Mg w' v l := ⟨h.1.below hb, h.2⟩
theorem Mg.form {w : World} {v : Value} {l : List Nat} (h : Mg w v l) : ∃ a cap, v = .slice a l.length cap ∧ l.length ≤ cap ∧ cap ≤ maxLen ∧ (a = none → cap = 0) ∧
  (0 < l.length → ∃ b off, a = some ⟨b, off, none⟩ ∧ b < w.heap.size ∧ ∀ j x, l[j]? = some x → w.cell? ⟨b, off + j, none⟩ = some (.int .u32 (x : Nat))) := by
 obtain ⟨⟨a, cap, rfl, h1, ⟨h2, h2'⟩, h3⟩, _⟩ := h
 refine ⟨a, cap, rfl, h1, h2, h2', fun hl => ?_⟩
 obtain ⟨b, off, rfl, hb, hc⟩ := h3 (fun e => by have := congrArg List.length e; rw [limbCells_length] at this; simp at this; simp [this] at hl)
 exact ⟨b, off, rfl, hb, fun j x hj => hc j _ (limbCells_get hj)⟩
theorem Mg.cell {w : World} {b off n cap : Nat} {l : List Nat} (h : Mg w (.slice (some ⟨b, off, none⟩) n cap) l) {j x : Nat} (hx : l[j]? = some x) : w.cell? ⟨b, off + j, none⟩ = some (.int .u32 (x : Nat)) := by
 obtain ⟨a, cap', hv, _, _, _, hr⟩ := h.form
 injection hv with e1 e2 e3
 subst e1
 obtain ⟨b', off', hv', _, hc⟩ := hr (by have := (List.getElem?_eq_some_iff.1 hx).1; omega)
 injection hv' with hv'
 injection hv' with e4 e5
 subst e4 e5
 exact hc j x hx
def Fr (base : Nat) (a : Option Addr) : Prop := ∀ ad, a = some ad → base ≤ ad.block
theorem Fr.mono {b b' : Nat} {a : Option Addr} (h : Fr b a) (hb : b' ≤ b) : Fr b' a := fun ad e => Nat.le_trans hb (h ad e)
theorem Mg.store {w : World} {a : Option Addr} {n cap base : Nat} {l : List Nat} (h : Mg w (.slice a n cap) l) (hf : Fr base a) {p : Addr} (hp : p.block < base) (u : Value) : Mg (w.setCell p u) (.slice a n cap) l := by
 obtain ⟨⟨a', cap', h0, h1, h2, h3⟩, hl⟩ := h
 injection h0 with e1 e2 e3
 subst e1 e3
 refine ⟨⟨a, cap, by rw [e2], h1, h2, fun hx => ?_⟩, hl⟩
 obtain ⟨b, off, rfl, hb, hc⟩ := h3 hx
 have hne : b ≠ p.block := by have := hf _ rfl; simp only at this; omega
 refine ⟨b, off, rfl, by simpa [World.setCell] using hb, fun j u' hj => ?_⟩
 rw [World.cell?_of_block (w := w) (a := ⟨b, off + j, none⟩) (Below.heap_setCell _ _ _ _ hne)]
 exact hc j u' hj
theorem below_call {B : Nat} {w W w1 : World} (h : Below B w W) (hb : Below W.heap.size W w1) (hB : B ≤ W.heap.size) : Below B w w1 := h.trans (hb.mono hB)
def IsZ (w : World) (s : Bool) (a : Option Addr) (n cap : Nat) (z : Int) (k : Nat) : Prop :=
 ∃ l, l.length = n ∧ Mg w (.slice a n cap) l ∧ n ≤ k ∧ z = if s then -(val l : Int) else (val l : Int)
def Can (w : World) (s : Bool) (a : Option Addr) (n cap : Nat) (z : Int) : Prop := s = decide (z < 0) ∧ n = (digs z.natAbs).length ∧ Mg w (.slice a n cap) (digs z.natAbs)
def sz (z : Int) : Nat := (digs z.natAbs).length
theorem IsZ.below {w w' : World} {s : Bool} {a : Option Addr} {n cap : Nat} {z : Int} {k : Nat} (h : IsZ w s a n cap z k) (hb : Below w.heap.size w w') : IsZ w' s a n cap z k := by
 obtain ⟨l, h1, h2, h3, h4⟩ := h
 exact ⟨l, h1, h2.below hb, h3, h4⟩
theorem IsZ.mono {w : World} {s : Bool} {a : Option Addr} {n cap : Nat} {z : Int} {k m : Nat} (h : IsZ w s a n cap z k) (hm : k ≤ m) : IsZ w s a n cap z m := by
 obtain ⟨l, h1, h2, h3, h4⟩ := h
 exact ⟨l, h1, h2, Nat.le_trans h3 hm, h4⟩
theorem Can.below {w w' : World} {s : Bool} {a : Option Addr} {n cap : Nat} {z : Int} (h : Can w s a n cap z) (hb : Below w.heap.size w w') : Can w' s a n cap z := ⟨h.1, h.2.1, h.2.2.below hb⟩
theorem Can.store {w : World} {s : Bool} {a : Option Addr} {n cap base : Nat} {z : Int} (h : Can w s a n cap z) (hf : Fr base a) {p : Addr} (hp : p.block < base) (u : Value) : Can (w.setCell p u) s a n cap z := ⟨h.1, h.2.1, h.2.2.store hf hp u⟩
end Go.Proofs.YtdieokoenhncfaaGreatDoor
namespace Go.Proofs.YtdieokoenhncfaaGreatDoor
open Go.RowKit Limb
set_option maxHeartbeats 2000000 in
theorem zcmp_any (v1 v2 : Value) (l1 l2 : List Nat) (w : World) (h1 : Mg w v1 l1) (h2 : Mg w v2 l2) (hl1 : l1.length ≤ 1099511627776) (_hl2 : l2.length ≤ 1099511627776) :
  Calls Tryz.prog 117 #[v1, v2] w fun e w' => e = .returned (.int .i64 (cmpL l1 l2)) ∧ Below w.heap.size w w' := by
 have H1 := Lib.hid h1
 have H2 := Lib.hid h2
 obtain ⟨a1, cap1, rfl, _, _, _, _⟩ := h1.form
 obtain ⟨a2, cap2, rfl, _, _, _, _⟩ := h2.form
 clear h1 h2
 rcases Nat.lt_trichotomy l1.length l2.length with hlt | heq | hgt
 ·have HC : Hid (cmpL l1 l2 = -1) := by show cmpL l1 l2 = -1; unfold cmpL; rw [if_pos hlt]
  have hb : ((l1.length : Int) != (l2.length : Int)) = true := by rw [bne_iff_ne]; omega
  go_enter Tryz.func117, Tryz.ntmps117
  go_wp2_with fail
  go_ret
  exact ⟨ret_int' HC.out.symm, Below.refl _ _⟩
 ·have hb : ((l1.length : Int) != (l2.length : Int)) = false := by simp [heq]
  have HQ := Lib.hid heq
  clear heq
  go_enter Tryz.func117, Tryz.ntmps117
  go_wp2_with fail
  go_loopg [4, 5] l1.length (fun g s4 s5 wr => s5 = .int .i64 ((g : Int) - 1) ∧ g ≤ l1.length ∧ l1.drop g = l2.drop g ∧ Below w.heap.size w wr)
  case atStart => exact ⟨rfl, Nat.le_refl _, by rw [List.drop_eq_nil_of_le (Nat.le_refl _), List.drop_eq_nil_of_le (by rw [HQ.out]; exact Nat.le_refl _)], Below.refl _ _⟩
  case round =>
   obtain ⟨rfl, hg, hdr, hbx⟩ := hrel
   have HD := Lib.hid hdr
   have HBX := Lib.hid hbx
   clear hdr
   cases gk with
   | zero =>
    have HC : Hid (cmpL l1 l2 = 0) := by
     have : l1 = l2 := by simpa using HD.out
     show cmpL l1 l2 = 0
     rw [this, cmpL_same]
    clear hbx
    go_wp2_with fail
    go_ret
    exact ⟨ret_int' HC.out.symm, HBX.out⟩
   | succ g =>
    obtain ⟨x, hx⟩ : ∃ x, l1[g]? = some x := ⟨_, List.getElem?_eq_getElem (by omega)⟩
    obtain ⟨y, hy⟩ : ∃ y, l2[g]? = some y := ⟨_, List.getElem?_eq_getElem (by have := HQ.out; omega)⟩
    have hq := HQ.out
    obtain ⟨a1', cap1', hv1, _, _, _, hr1⟩ := (H1.out.below hbx).form
    obtain ⟨a2', cap2', hv2, _, _, _, hr2⟩ := (H2.out.below hbx).form
    injection hv1 with e1 e2 e3
    injection hv2 with e4 e5 e6
    subst e1 e3 e4 e6
    obtain ⟨b1, off1, rfl, hb1, hcl1⟩ := hr1 (by omega)
    obtain ⟨b2, off2, rfl, hb2, hcl2⟩ := hr2 (by omega)
    have c1 := hcl1 g x hx
    have c2 := hcl2 g y hy
    have hxB := H1.out.2.get hx
    have hyB := H2.out.2.get hy
    rw [B_def] at hxB hyB
    have hg2 : g < l2.length := by omega
    have hgi1 : (g : Int) < (l1.length : Int) := by omega
    have hgi2 : (g : Int) < (l2.length : Int) := by omega
    have HL1 := Lib.hid H1.out.2
    have HL2 := Lib.hid H2.out.2
    have HX := Lib.hid hx
    have HY := Lib.hid hy
    clear hcl1 hcl2 e2 e5 hbx hx hy hq
    rcases Nat.lt_trichotomy x y with hxy | hxy | hxy
    ·have HC : Hid (cmpL l1 l2 = -1) := by
      have := val_lt_of_top HQ.out HL1.out HX.out HY.out hxy HD.out
      show cmpL l1 l2 = -1
      unfold cmpL
      rw [if_neg (by rw [HQ.out]; omega), if_neg (by rw [HQ.out]; omega), if_pos this]
     have hne : ((x : Int) != (y : Int)) = true := by rw [bne_iff_ne]; omega
     have hlti : decide (x < y) = true := decide_eq_true hxy
     go_wp2_with fail
     go_quiet (fail)
     go_wp2_with fail
     go_quiet (fail)
     go_wp2_with fail
     go_ret
     exact ⟨ret_int' HC.out.symm, by first | exact below_drewN HBX.out _ | exact below_drewN (below_drewN HBX.out _) _⟩
    ·subst hxy
     have HD2 : Hid (l1.drop g = l2.drop g) := by
      have e1 := List.drop_eq_getElem_cons (l := l1) (i := g) (by omega)
      have e2 := List.drop_eq_getElem_cons (l := l2) (i := g) (by omega)
      show l1.drop g = l2.drop g
      rw [e1, e2, HD.out]
      congr 1
      rw [(List.getElem?_eq_some_iff.1 HX.out).2, (List.getElem?_eq_some_iff.1 HY.out).2]
     have hne : ((x : Int) != (x : Int)) = false := by simp
     go_wp2_with fail
     go_quiet (fail)
     go_wp2_with fail
     go_roundg g
     case measure => omega
     case rel => exact ⟨by go_num, by omega, HD2.out, below_drewN HBX.out _⟩
    ·have HC : Hid (cmpL l1 l2 = 1) := by
      have := val_lt_of_top HQ.out.symm HL2.out HY.out HX.out hxy HD.out.symm
      show cmpL l1 l2 = 1
      unfold cmpL
      rw [if_neg (by rw [HQ.out]; omega), if_neg (by rw [HQ.out]; omega), if_neg (by omega), if_pos this]
     have hne : ((x : Int) != (y : Int)) = true := by rw [bne_iff_ne]; omega
     have hlti : decide (x < y) = false := decide_eq_false (by omega)
     go_wp2_with fail
     go_quiet (fail)
     go_wp2_with fail
     go_quiet (fail)
     go_wp2_with fail
     go_ret
     exact ⟨ret_int' HC.out.symm, by first | exact below_drewN HBX.out _ | exact below_drewN (below_drewN HBX.out _) _⟩
 ·have HC : Hid (cmpL l1 l2 = 1) := by show cmpL l1 l2 = 1; unfold cmpL; rw [if_neg (by omega), if_pos hgt]
  have hb : ((l1.length : Int) != (l2.length : Int)) = true := by rw [bne_iff_ne]; omega
  go_enter Tryz.func117, Tryz.ntmps117
  go_wp2_with fail
  go_ret
  exact ⟨ret_int' HC.out.symm, Below.refl _ _⟩
end Go.Proofs.YtdieokoenhncfaaGreatDoor
namespace Go.Proofs.YtdieokoenhncfaaGreatDoor
open Go.RowKit Limb
end Go.Proofs.YtdieokoenhncfaaGreatDoor
namespace Go.Proofs.YtdieokoenhncfaaGreatDoor.Limb
def DblInv (l : List Nat) (c0 : Nat) (i : Nat) (O : List Nat) (c : Nat) : Prop := O.length = i ∧ Lm O ∧ c ≤ 1 ∧ val O + B ^ i * c = 2 * val (l.take i) + c0
theorem DblInv.start (l : List Nat) {c0 : Nat} (h : c0 ≤ 1) : DblInv l c0 0 [] c0 := ⟨rfl, Lm.nil, h, by simp [val]⟩
theorem DblInv.step {l : List Nat} {c0 i : Nat} {O : List Nat} {c x : Nat} (hl : Lm l) (h : DblInv l c0 i O c) (hx : l[i]? = some x) :
  DblInv l c0 (i + 1) (O ++ [(2 * x) % B + c]) (x / 2147483648) := by
 obtain ⟨a1, a2, a3, a4⟩ := h
 have b1 := hl.get hx
 refine ⟨by simp [a1], lm_snoc a2 (by rw [B_def] at *; omega), by rw [B_def] at b1; omega, ?_⟩
 rw [val_snoc, val_take_succ, a1, hx, Option.getD_some]
 have : B ^ i * ((2 * x) % B + c) + B ^ (i + 1) * (x / 2147483648) = B ^ i * (2 * x + c) := by
  rw [Nat.pow_succ, Nat.mul_assoc, ← Nat.mul_add]
  congr 1
  rw [B_def] at *; omega
 rw [Nat.add_assoc, this, Nat.mul_add, Nat.mul_add, Nat.mul_left_comm (B ^ i) 2 x]
 omega
theorem DblInv.done {l : List Nat} {c0 i : Nat} {O : List Nat} {c : Nat} (h : DblInv l c0 i O c) (h1 : l.length ≤ i) : Lm (O ++ [c]) ∧ val (O ++ [c]) = 2 * val l + c0 := by
 obtain ⟨a1, a2, a3, a4⟩ := h
 refine ⟨lm_snoc a2 (by rw [B_def]; omega), ?_⟩
 rw [val_snoc, a1, a4, List.take_of_length_le h1]
end Go.Proofs.YtdieokoenhncfaaGreatDoor.Limb
namespace Go.Proofs.YtdieokoenhncfaaGreatDoor
open Go.RowKit Limb
end Go.Proofs.YtdieokoenhncfaaGreatDoor
namespace Go.Proofs.YtdieokoenhncfaaGreatDoor
open Go.RowKit Limb
end Go.Proofs.YtdieokoenhncfaaGreatDoor
namespace Go.Proofs.YtdieokoenhncfaaGreatDoor
open Go.RowKit Limb
theorem can_same {w : World} {s : Bool} {a : Option Addr} {n cap : Nat} {z : Int} {s' : Bool} {a' : Option Addr} {n' cap' : Nat} {z' : Int} (h : Can w s a n cap z) (h' : Can w s' a' n' cap' z') :
  (z = z' ∧ s = s' ∧ n = n' ∧ cmpL (digs z.natAbs) (digs z'.natAbs) = 0) ∨ (z ≠ z' ∧ (s ≠ s' ∨ n ≠ n' ∨ cmpL (digs z.natAbs) (digs z'.natAbs) ≠ 0)) := by
 obtain ⟨e1, e2, _⟩ := h
 obtain ⟨e3, e4, _⟩ := h'
 by_cases hz : z = z'
 ·left; subst hz; exact ⟨rfl, e1.trans e3.symm, e2.trans e4.symm, cmpL_same _⟩
 ·right
  refine ⟨hz, ?_⟩
  by_cases hs : s = s'
  ·right; right
   rw [cmpL_digs]
   have hd : decide (z < 0) = decide (z' < 0) := by rw [← e1, ← e3, hs]
   have hd' := decide_eq_decide.1 hd
   by_cases c1 : z.natAbs < z'.natAbs
   ·rw [if_pos c1]; omega
   ·rw [if_neg c1, if_pos (by omega)]; omega
  ·left; exact hs
set_option maxHeartbeats 4000000 in
theorem zsame_any (s : Bool) (a : Option Addr) (n cap : Nat) (z : Int) (s' : Bool) (a' : Option Addr) (n' cap' : Nat) (z' : Int) (w : World) (h : Can w s a n cap z) (h' : Can w s' a' n' cap' z') (hk : sz z ≤ 1073741824) (hk' : sz z' ≤ 1073741824) :
  Calls Tryz.prog 65 #[.agg #[.bool s, .slice a n cap], .agg #[.bool s', .slice a' n' cap']] w fun e w' => e = .returned (.bool (decide (z = z'))) ∧ Below w.heap.size w w' := by
 have hb0 := ((Below.refl w.heap.size w).alloc (Nat.le_refl _) (.cells #[.bool s, .slice a n cap] 34)).alloc (by first | omega | (simp; done) | (simp; omega)) (.cells #[.bool s', .slice a' n' cap'] 34)
 have HC := Lib.hid (fun W (hb : Below w.heap.size w W) => zcmp_any _ _ _ _ W (h.2.2.below hb) (h'.2.2.below hb) (by unfold sz at hk; omega) (by unfold sz at hk'; omega))
 have HB0 := Lib.hid hb0
 have hcs := can_same h h'
 clear h h' hb0
 generalize cmpL (digs z.natAbs) (digs z'.natAbs) = cc at *
 have hways : (decide (z = z') = true ∧ (s == s') = true ∧ ((n : Int) == (n' : Int)) = true ∧ (cc == 0) = true) ∨ (decide (z = z') = false ∧ (s == s') = false) ∨ (decide (z = z') = false ∧ (s == s') = true ∧ ((n : Int) == (n' : Int)) = false) ∨ (decide (z = z') = false ∧ (s == s') = true ∧ ((n : Int) == (n' : Int)) = true ∧ (cc == 0) = false) := by
  simp only [decide_eq_true_eq, decide_eq_false_iff_not, beq_iff_eq, beq_eq_false_iff_ne]
  rcases hcs with ⟨h1, h2, h3, h4⟩ | ⟨h1, h2⟩
  ·left; exact ⟨h1, h2, by omega, h4⟩
  ·right
   by_cases c1 : s = s'
   ·right
    by_cases c2 : n = n'
    ·right
     refine ⟨h1, c1, by omega, ?_⟩
     rcases h2 with h2 | h2 | h2
     ·exact absurd c1 h2
     ·exact absurd c2 h2
     ·exact h2
    ·left; exact ⟨h1, c1, by omega⟩
   ·left; exact ⟨h1, c1⟩
 clear hcs
 rcases hways with ⟨d1, d2, d3, d4⟩ | ⟨d1, d2⟩ | ⟨d1, d2, d3⟩ | ⟨d1, d2, d3, d4⟩
 ·have HD := Lib.hid d1
  clear d1
  go_enter Tryz.func65, Tryz.ntmps65
  go_wp2_with (go_at_call 117; refine (HC.out _ HB0.out).mono ?_; rintro e w1 ⟨rfl, hb1⟩; have HB1 := Lib.hid (below_call HB0.out hb1 (by first | omega | (simp; done) | (simp; omega))); clear hb1)
  go_ret
  exact ⟨ret_bool' HD.out.symm, HB1.out⟩
 ·have HD := Lib.hid d1
  clear d1
  go_enter Tryz.func65, Tryz.ntmps65
  go_wp2_with fail
  go_ret
  exact ⟨ret_bool' HD.out.symm, HB0.out⟩
 ·have HD := Lib.hid d1
  clear d1
  go_enter Tryz.func65, Tryz.ntmps65
  go_wp2_with fail
  go_ret
  exact ⟨ret_bool' HD.out.symm, HB0.out⟩
 ·have HD := Lib.hid d1
  clear d1
  go_enter Tryz.func65, Tryz.ntmps65
  go_wp2_with (go_at_call 117; refine (HC.out _ HB0.out).mono ?_; rintro e w1 ⟨rfl, hb1⟩; have HB1 := Lib.hid (below_call HB0.out hb1 (by first | omega | (simp; done) | (simp; omega))); clear hb1)
  go_ret
  exact ⟨ret_bool' HD.out.symm, HB1.out⟩
end Go.Proofs.YtdieokoenhncfaaGreatDoor
namespace Go.Proofs.YtdieokoenhncfaaGreatDoor
open Go.RowKit Limb
theorem run_mag (s : Bool) (a : Option Addr) (n cap : Nat) (w : World) : Sem.run Tryz.prog (Instr.field 34 (.agg #[.bool s, .slice a n cap]) 1) w = .ok (.slice a n cap) w := by kernel_rfl
attribute [local go_sem] run_mag
end Go.Proofs.YtdieokoenhncfaaGreatDoor
/- The reference's integers, abstractly. -/
namespace Go.Proofs.YtdieokoenhncfaaGreatDoor
open Go.RowKit Limb
theorem mag_mg {h : GH} {w : World} (hh : Holds h w) {v : Value} {l : List Nat} (hm : (mag l).p h v) : Mg w v l := by
 obtain ⟨⟨a, cap, h1, h2, h3, h4⟩, h5⟩ := hm
 refine ⟨⟨a, cap, h1, h2, h3, fun hx => ?_⟩, h5⟩
 have hl : l ≠ [] := by rintro rfl; exact hx rfl
 obtain ⟨b, off, e, hc⟩ := h4 hl
 have hlt : b < w.heap.size := by
  obtain ⟨x, hx⟩ := List.exists_mem_of_ne_nil l hl
  obtain ⟨j, hj⟩ := List.getElem?_of_mem hx
  exact hh.lt (hc j x hj)
 refine ⟨b, off, e, hlt, fun j u hu => ?_⟩
 simp only [limbCells, List.getElem?_map, Option.map_eq_some_iff] at hu
 obtain ⟨x, hx, rfl⟩ := hu
 exact hh _ _ _ (hc j x hx)
theorem ex_fn {h : GH} {w w' : World} {v : Value} {e : Ending} (hh : Holds h w) (he : e = .returned v) (hb : Below w.heap.size w w') : FnPost h w (ex v) e w' := by subst he; exact fn_post hh hb rfl
section
variable (En : Ev)
theorem zC_can {h : GH} {w : World} (hh : Holds h w) {v : Value} {z : Int} (hz : (zC z).p h v) : ∃ a cap, v = .agg #[.bool (decide (z < 0)), .slice a (digs z.natAbs).length cap] ∧ Can w (decide (z < 0)) a (digs z.natAbs).length cap z := by
 obtain ⟨vs, rfl, ha⟩ := hz
 obtain ⟨u, x, rfl, hu, hx, _, _⟩ := ha.two
 have hu : u = .bool (decide (z < 0)) := hu
 subst hu
 obtain ⟨⟨a, cap, e, hr⟩, hl⟩ := hx
 subst e
 exact ⟨a, cap, rfl, rfl, rfl, mag_mg hh ⟨⟨a, cap, rfl, hr⟩, hl⟩⟩
theorem fsame (z z' : Int) (hk : sz z ≤ 1073741824) (hk' : sz z' ≤ 1073741824) : Fn Tryz.prog En 65 [zC z, zC z'] (ex (.bool (decide (z = z')))) := by
 intro h w vs _ hh ha
 obtain ⟨v, u, rfl, hv, hu⟩ := ha.two
 obtain ⟨a, cap, rfl, hz⟩ := zC_can hh hv
 obtain ⟨a', cap', rfl, hz'⟩ := zC_can hh hu
 exact (zsame_any _ a _ cap z _ a' _ cap' z' w hz hz' hk hk').mono fun _ _ ⟨he, hb⟩ => ex_fn hh he hb
end
end Go.Proofs.YtdieokoenhncfaaGreatDoor

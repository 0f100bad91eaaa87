/- Package variables that stay az they are: reading them in the abstract walk; contracts under a stronger environment. For any program. -/
import Derived.Test.YtfmjdlogjmofbaaGreatDoorF
import Derived.Test.YtfmjdlogjmofbaaGreatDoorM
import Derived.Test.YtfmjdlogjmofbaaGreatDoorL
import Derived.WalkKit
import Derived.WalkSpells
import Derived.WalkLawsBesides
import Derived.Deep.LoopGhost
import Derived.Lib.LaidTab
import Derived.Lib.Hide
import Derived.IntWalk
import Derived.Test.YtfmjdlogjmofbaaGreatDoorW
set_option maxRecDepth 3000
namespace Go.Proofs.YtfmjdlogjmofbaaGreatDoor
section
open Go.RowKit Limb
theorem Fn.env {P : Program} {E1 E2 : Ev} {f : FuncId} {ps : List Pd} {r : Pd} (h : Fn P E1 f ps r) (he : ∀ w, E2.e w → E1.e w) : Fn P E2 f ps r :=
 fun hh w vs hw => h hh w vs (he w hw)
section
variable {P : Program} {En : Ev} {n : Nat} {ops : Array Oper} {o : Oper} {sl : Sl} {bx : Bx}
theorem LT.skipU {g t : Nat} {b : Bool} (hg : o.guard = some (g, b)) (hd : (ops[g]?).bind (·.dst) = some t) (ht : look sl t = some (.one (ex undef))) : LT P En n ops o sl bx ⟨.one (ex undef), [], []⟩ := by
 intro sl' bx' h1 _ _ w0 h0 c hh β a w Q hi hs K hK
 obtain ⟨v, hv, hok, _⟩ := hs.slot t _ (by rw [h1 t (dZJ hg hd)]; exact ht)
 have hv' : v = undef := hok
 subst hv'
 have : Region.wanted o (yielded ops a.tmps) = false := by simp [Region.wanted, hg, yielded, hd, hv, undef]
 rw [this]
 simp only [Bool.false_eq_true, if_false]
 exact hK _ _ ⟨undef, hh, β, rfl, hi, Le.refl _, fun _ _ => rfl, rfl, trivial⟩
theorem RT.pureE {sd : SD} (H : ∀ (ρ : Operand → Value) (h : GH) (β : Nat → Nat) (bx' : Bx), (∀ x ∈ o.op.operands.toList, ∀ s, osd sl x = some s → s.ok h β (ρ x) ∧ s.live bx') → ∃ v, (∀ w, En.e w → Holds h w → (execOp ρ o).run P w = .ok (.value v) w) ∧ sd.ok h β v ∧ sd.live bx') :
  RT P En n o sl bx ⟨sd, [], []⟩ := by
 intro sl' bx' h1 _ _ w0 h0 c h β a w Q hi hs
 obtain ⟨v, hv, hok, hl⟩ := H a.eval h β bx' (fun x hx s hxs => aZI hs (by rw [h1 x hx]; exact hxs))
 unfold Oper.wp
 rw [hv w hi.envNow hi.holds]
 exact ⟨v, h, β, rfl, hi, Le.refl _, fun _ _ => rfl, hok, hl⟩
end
section
variable {P : Program} {En : Ev} {n : Nat} {sl : Sl} {bx : Bx} {dst : Option Tmp} {ty : TypeId} {pos : String} {after : Array Edge} {guard : Option (Nat × Bool)}
theorem jZ1 {T : TypeId} {x : Operand} {g off k : Nat} {vs : List Value} [ht : CRow P T k] (hx : osd sl x = some (.one (ex (.pointer (some ⟨g, off, none⟩))))) (hE : ∀ w, En.e w → w.rangeAt g off vs) (hk : vs.length = k) (h1c : ∀ v ∈ vs, v.oneCell' = true) :
  RT P En n ⟨dst, .load T x, ty, pos, after, guard⟩ sl bx ⟨.one (aggP (vs.map ex)), [], []⟩ :=
 RT.pureE fun ρ h β bx' H => by
  have h1 : ρ x = .pointer (some ⟨g, off, none⟩) := (H x (by simp [Op.operands]) _ hx).1
  obtain ⟨d, hd1, hd2, hd3⟩ := ht.ok
  refine ⟨.agg vs.toArray, fun w he _ => ?_, ⟨vs, rfl, eZ7 h1c⟩, trivial⟩
  simp only [execOp, h1, Sem.run_bind, run_loadAt_mid w g off T vs d (hE w he) hd1 hd2 (by rw [hk]; exact hd3), Result.andThen_ok, Sem.run_pure]
theorem bZ5 {T E : TypeId} {x ix : Operand} {len k : Nat} {ps : List Pd} {kk : IntKind} {i : Nat} [hT : CArr P T len E k] [hE : CRow P E k] (hx : osd sl x = some (.one (aggP ps))) (hi : osd sl ix = some (.one (ex (.int kk (i : Int))))) (hy : i < len) {qs : List Pd} (hq : (ps.drop (i * k)).take k = qs) :
  RT P En n ⟨dst, .index T x ix, ty, pos, after, guard⟩ sl bx ⟨.one (aggP qs), [], []⟩ :=
 RT.pure fun ρ h β bx' H => by
  subst hq
  obtain ⟨vs, h1, h2⟩ : (aggP ps).p h (ρ x) := (H x (by simp [Op.operands]) _ hx).1
  have h6 : ρ ix = .int kk (i : Int) := (H ix (by simp [Op.operands]) _ hi).1
  obtain ⟨t1, t2⟩ := hT.ok
  obtain ⟨inf, t3, t4⟩ := Option.map_eq_some_iff.1 t2
  obtain ⟨d, hd1, hd2, _⟩ := hE.ok
  have h5 : (0 : Int) ≤ (i : Int) ∧ (i : Int) < (len : Int) := oM
  refine ⟨.agg ((vs.drop (i * k)).take k).toArray, fun w _ => ?_, ⟨_, rfl, (h2.drop _).take _⟩, trivial⟩
  simp only [execOp, h1, h6, Instr.index, asIntOf, Sem.run_bind, Sem.run_pure, Result.andThen_ok, run_underlying t1, if_pos h5, sizeOf, run_typeInfo _ t3, t4, part, cZE hd1, hd2, if_true, Int.toNat_natCast, List.extract_toArray, List.extract_eq_take_drop, Nat.add_sub_cancel_left]
end
end
section
open Go.RowKit Limb
theorem jj {α : Type} {a : α} : a = a := rfl
section
variable {P : Program} {En : Ev} {n : Nat} {w0 : World} {h0 : GH} {c : Cx} {K : Exit → St → Prop} {σ : St} {full rest : List Oper} {acc : List Eff} {sl : Sl} {bx : Bx}
variable {d : Nat} {op : Op} {ty : TypeId} {pos : String} {after : Array Edge} {sd : SD} {rb : List Nat} {y : Nat × List Pd} {g tt : Nat} {b : Bool}
theorem jn (hk : K .normal σ) (hok : dZY n full acc.reverse = true := by kernel_rfl) : RG P En n full [] acc K σ := RG.nil hok hk
theorem jk (t : RG P En n full rest (⟨.one (ex undef), [], []⟩ :: acc) K ⟨(d, .one (ex undef)) :: sl, bx⟩) (hd : (full.toArray[g]?).bind (·.dst) = some tt := by exact rfl) (ht : look sl tt = some (.one (ex (.bool (!b)))) := by exact rfl) : RG P En n full (⟨some d, op, ty, pos, after, some (g, b)⟩ :: rest) acc K ⟨sl, bx⟩ := RG.S0 (LT.skip rfl hd ht) t
theorem ju (t : RG P En n full rest (⟨.one (ex undef), [], []⟩ :: acc) K ⟨(d, .one (ex undef)) :: sl, bx⟩) (hd : (full.toArray[g]?).bind (·.dst) = some tt := by exact rfl) (ht : look sl tt = some (.one (ex undef)) := by exact rfl) : RG P En n full (⟨some d, op, ty, pos, after, some (g, b)⟩ :: rest) acc K ⟨sl, bx⟩ := RG.S0 (LT.skipU rfl hd ht) t
theorem jg (h : RT P En n ⟨some d, op, ty, pos, after, some (g, b)⟩ sl bx ⟨sd, rb, []⟩) (t : RG P En n full rest (⟨sd, rb, []⟩ :: acc) K ⟨(d, sd) :: sl, bx⟩) (hd : (full.toArray[g]?).bind (·.dst) = some tt := by exact rfl) (ht : look sl tt = some (.one (ex (.bool b))) := by exact rfl) : RG P En n full (⟨some d, op, ty, pos, after, some (g, b)⟩ :: rest) acc K ⟨sl, bx⟩ := RG.S0 (LT.run rfl hd ht h) t
theorem jt {cc : Operand} {x y : Code} (hc : osd σ.sl cc = some (.one (ex (.bool true)))) (h : WpD P En n w0 h0 c x K σ) : WpD P En n w0 h0 c (.cond cc x y) K σ := WpD.condT hc h
theorem jf {cc : Operand} {x y : Code} (hc : osd σ.sl cc = some (.one (ex (.bool false)))) (h : WpD P En n w0 h0 c y K σ) : WpD P En n w0 h0 c (.cond cc x y) K σ := WpD.condF hc h
theorem jp (h : K .normal σ) : WpD P En n w0 h0 c .skip K σ := WpD.skip h
theorem je {id : Nat} (h : K (.exit id) σ) : WpD P En n w0 h0 c (.exit id) K σ := WpD.exit h
theorem ji (h : K .ret σ) : WpD P En n w0 h0 c .ret K σ := WpD.ret h
end
section
variable {P : Program} {En : Ev} {n : Nat} {sl : Sl} {bx : Bx} {dst : Option Tmp} {ty : TypeId} {pos : String} {after : Array Edge} {guard : Option (Nat × Bool)} {T T' : TypeId} {x y : Operand} {k : IntKind} {u v r : Int}
theorem bLt (hx : osd sl x = some (.one (ex (.int k u)))) (hy : osd sl y = some (.one (ex (.int k v)))) (h : u < v := by first | assumption | omega) : RT P En n ⟨dst, .binOp .lss T x y T', ty, pos, after, guard⟩ sl bx ⟨.one (ex (.bool true)), [], []⟩ := aZf hx hy (fun w => fZg w _ _ _ _ _ _) (bZe (decide_eq_true h))
theorem bLf (hx : osd sl x = some (.one (ex (.int k u)))) (hy : osd sl y = some (.one (ex (.int k v)))) (h : ¬ u < v := by first | assumption | omega) : RT P En n ⟨dst, .binOp .lss T x y T', ty, pos, after, guard⟩ sl bx ⟨.one (ex (.bool false)), [], []⟩ := aZf hx hy (fun w => fZg w _ _ _ _ _ _) (bZe (decide_eq_false h))
theorem bMt (hx : osd sl x = some (.one (ex (.int k u)))) (hy : osd sl y = some (.one (ex (.int k v)))) (h : u ≤ v := by first | assumption | omega) : RT P En n ⟨dst, .binOp .leq T x y T', ty, pos, after, guard⟩ sl bx ⟨.one (ex (.bool true)), [], []⟩ := aZf hx hy (fun w => eZq w _ _ _ _ _ _) (bZe (decide_eq_true h))
theorem bMf (hx : osd sl x = some (.one (ex (.int k u)))) (hy : osd sl y = some (.one (ex (.int k v)))) (h : ¬ u ≤ v := by first | assumption | omega) : RT P En n ⟨dst, .binOp .leq T x y T', ty, pos, after, guard⟩ sl bx ⟨.one (ex (.bool false)), [], []⟩ := aZf hx hy (fun w => eZq w _ _ _ _ _ _) (bZe (decide_eq_false h))
theorem bGt (hx : osd sl x = some (.one (ex (.int k u)))) (hy : osd sl y = some (.one (ex (.int k v)))) (h : u > v := by first | assumption | omega) : RT P En n ⟨dst, .binOp .gtr T x y T', ty, pos, after, guard⟩ sl bx ⟨.one (ex (.bool true)), [], []⟩ := aZf hx hy (fun w => dZB w _ _ _ _ _ _) (bZe (decide_eq_true h))
theorem bGf (hx : osd sl x = some (.one (ex (.int k u)))) (hy : osd sl y = some (.one (ex (.int k v)))) (h : ¬ u > v := by first | assumption | omega) : RT P En n ⟨dst, .binOp .gtr T x y T', ty, pos, after, guard⟩ sl bx ⟨.one (ex (.bool false)), [], []⟩ := aZf hx hy (fun w => dZB w _ _ _ _ _ _) (bZe (decide_eq_false h))
theorem bHt (hx : osd sl x = some (.one (ex (.int k u)))) (hy : osd sl y = some (.one (ex (.int k v)))) (h : u ≥ v := by first | assumption | omega) : RT P En n ⟨dst, .binOp .geq T x y T', ty, pos, after, guard⟩ sl bx ⟨.one (ex (.bool true)), [], []⟩ := aZf hx hy (fun w => iZz w _ _ _ _ _ _) (bZe (decide_eq_true h))
theorem bHf (hx : osd sl x = some (.one (ex (.int k u)))) (hy : osd sl y = some (.one (ex (.int k v)))) (h : ¬ u ≥ v := by first | assumption | omega) : RT P En n ⟨dst, .binOp .geq T x y T', ty, pos, after, guard⟩ sl bx ⟨.one (ex (.bool false)), [], []⟩ := aZf hx hy (fun w => iZz w _ _ _ _ _ _) (bZe (decide_eq_false h))
theorem bEt (hx : osd sl x = some (.one (ex (.int k u)))) (hy : osd sl y = some (.one (ex (.int k v)))) (h : u = v := by first | assumption | omega) : RT P En n ⟨dst, .binOp .eql T x y T', ty, pos, after, guard⟩ sl bx ⟨.one (ex (.bool true)), [], []⟩ := aZf hx hy (fun w => cZ6 w _ _ _ _ _ _) (bZe (beqT h))
theorem bEf (hx : osd sl x = some (.one (ex (.int k u)))) (hy : osd sl y = some (.one (ex (.int k v)))) (h : u ≠ v := by first | assumption | omega) : RT P En n ⟨dst, .binOp .eql T x y T', ty, pos, after, guard⟩ sl bx ⟨.one (ex (.bool false)), [], []⟩ := aZf hx hy (fun w => cZ6 w _ _ _ _ _ _) (bZe (beqF h))
theorem bNt (hx : osd sl x = some (.one (ex (.int k u)))) (hy : osd sl y = some (.one (ex (.int k v)))) (h : u ≠ v := by first | assumption | omega) : RT P En n ⟨dst, .binOp .neq T x y T', ty, pos, after, guard⟩ sl bx ⟨.one (ex (.bool true)), [], []⟩ := aZf hx hy (fun w => gZ6 w _ _ _ _ _ _) (bZe (bneT h))
theorem bNf (hx : osd sl x = some (.one (ex (.int k u)))) (hy : osd sl y = some (.one (ex (.int k v)))) (h : u = v := by first | assumption | omega) : RT P En n ⟨dst, .binOp .neq T x y T', ty, pos, after, guard⟩ sl bx ⟨.one (ex (.bool false)), [], []⟩ := aZf hx hy (fun w => gZ6 w _ _ _ _ _ _) (bZe (bneF h))
theorem bAd (hx : osd sl x = some (.one (ex (.int k u)))) (hy : osd sl y = some (.one (ex (.int k v)))) (h : k.wrap (u + v) = r) : RT P En n ⟨dst, .binOp .add T x y T', ty, pos, after, guard⟩ sl bx ⟨.one (ex (.int k r)), [], []⟩ := aZf hx hy (fun w => oZf w _ _ _ _ _ _) (vint h)
theorem bSu (hx : osd sl x = some (.one (ex (.int k u)))) (hy : osd sl y = some (.one (ex (.int k v)))) (h : k.wrap (u - v) = r) : RT P En n ⟨dst, .binOp .sub T x y T', ty, pos, after, guard⟩ sl bx ⟨.one (ex (.int k r)), [], []⟩ := aZf hx hy (fun w => cZy w _ _ _ _ _ _) (vint h)
theorem bMu (hx : osd sl x = some (.one (ex (.int k u)))) (hy : osd sl y = some (.one (ex (.int k v)))) (h : k.wrap (u * v) = r) : RT P En n ⟨dst, .binOp .mul T x y T', ty, pos, after, guard⟩ sl bx ⟨.one (ex (.int k r)), [], []⟩ := aZf hx hy (fun w => jZt w _ _ _ _ _ _) (vint h)
theorem bRe (hx : osd sl x = some (.one (ex (.int k u)))) (hy : osd sl y = some (.one (ex (.int k v)))) (h : u.tmod v = r) (hv : v ≠ 0 := by first | decide | omega | assumption) : RT P En n ⟨dst, .binOp .rem T x y T', ty, pos, after, guard⟩ sl bx ⟨.one (ex (.int k r)), [], []⟩ := aZf hx hy (fun w => cZz w _ _ _ _ _ _ hv) (vint h)
theorem bQu (hx : osd sl x = some (.one (ex (.int k u)))) (hy : osd sl y = some (.one (ex (.int k v)))) (h : k.wrap (u.tdiv v) = r) (hv : v ≠ 0 := by first | decide | omega | assumption) : RT P En n ⟨dst, .binOp .quo T x y T', ty, pos, after, guard⟩ sl bx ⟨.one (ex (.int k r)), [], []⟩ := aZf hx hy (fun w => oZe w _ _ _ _ _ _ hv) (vint h)
theorem bCv {S : TypeId} {k' : IntKind} [hS : CInt P S k'] [hT : CInt P T k] (hx : osd sl x = some (.one (ex (.int k' u)))) (h : k.wrap u = r) : RT P En n ⟨dst, .convert S T x, ty, pos, after, guard⟩ sl bx ⟨.one (ex (.int k r)), [], []⟩ := kZC hx (fun w => fZh w CInt.ok CInt.ok _ _) (vint h)
theorem bNo {q : Bool} (hx : osd sl x = some (.one (ex (.bool q)))) : RT P En n ⟨dst, .unOp .not T x, ty, pos, after, guard⟩ sl bx ⟨.one (ex (.bool (!q))), [], []⟩ := oZj hx (fun w => lZG w _)
end
section
variable {P : Program} {En : Ev} {n : Nat} {K : Exit → St → Prop} {full rest : List Oper} {acc : List Eff} {sl : Sl} {bx : Bx}
variable {d : Nat} {ty : TypeId} {pos : String} {after : Array Edge}
theorem jA {T : TypeId} {vs : List Value} [CZero P T vs] {ps : List Pd} (hd : Nat.blt d 400 = true) (hn : look bx d = none) (hp : vs.map ex = ps) (t : RG P En n full rest (⟨.ptr d 0, [], [(d, ps)]⟩ :: acc) K ⟨(d, .ptr d 0) :: sl, (d, ps) :: bx⟩) : RG P En n full (⟨some d, .alloc T, ty, pos, after, none⟩ :: rest) acc K ⟨sl, bx⟩ := jT (oZi hd hn hp) t
theorem jB {T : TypeId} {x : Operand} {ps : List Pd} (hx : osd sl x = some (.one (aggP ps))) (hd : Nat.blt d 400 = true) (hn : look bx d = none) (t : RG P En n full rest (⟨.ptr d 0, [], [(d, ps)]⟩ :: acc) K ⟨(d, .ptr d 0) :: sl, (d, ps) :: bx⟩) : RG P En n full (⟨some d, .box T x, ty, pos, after, none⟩ :: rest) acc K ⟨sl, bx⟩ := jT (ru_boxR hx hd hn) t
theorem jF {S : TypeId} {x : Operand} {f off b o : Nat} [CField P S f off] (hx : osd sl x = some (.ptr b o)) {o' : Nat} (ho : o + off = o') (t : RG P En n full rest (⟨.ptr b o', [], []⟩ :: acc) K ⟨(d, .ptr b o') :: sl, bx⟩) : RG P En n full (⟨some d, .fieldAddr S x f, ty, pos, after, none⟩ :: rest) acc K ⟨sl, bx⟩ := jS (eZB hx ho) t
theorem jl {T : TypeId} {x : Operand} {b o : Nat} {ps : List Pd} {p : Pd} [COne P T] (hx : osd sl x = some (.ptr b o)) (hb : look bx b = some ps) (hp : ps[o]? = some p) (t : RG P En n full rest (⟨.one p, [b], []⟩ :: acc) K ⟨(d, .one p) :: sl, bx⟩) (hl : lk b = false := by exact rfl) : RG P En n full (⟨some d, .load T x, ty, pos, after, none⟩ :: rest) acc K ⟨sl, bx⟩ := jS (aZ9 hx hb hp hl) t
theorem jP {T : TypeId} {x y : Operand} {b k o : Nat} {ps qs rs : List Pd} [CRow P T k] (hx : osd sl x = some (.ptr b o)) (hy : osd sl y = some (.one (aggP qs))) (hb : look bx b = some ps) (hr : putL ps o qs = rs) (t : RG P En n full rest (⟨.one (ex undef), [b], [(b, rs)]⟩ :: acc) K ⟨sl, (b, rs) :: bx⟩) (hq : Nat.beq qs.length k = true := by exact rfl) (hk : Nat.ble (o + k) ps.length = true := by exact rfl) (hp : Nat.blt 0 k = true := by exact rfl) (hl : lk b = false := by exact rfl) : RG P En n full (⟨none, .store T x y, ty, pos, after, none⟩ :: rest) acc K ⟨sl, bx⟩ := jO (hZs hx hy hb hq hk hr hp hl) t
theorem jL {T : TypeId} {x : Operand} {b k o : Nat} {ps qs : List Pd} [CRow P T k] (hx : osd sl x = some (.ptr b o)) (hb : look bx b = some ps) (hq : (ps.drop o).take k = qs) (t : RG P En n full rest (⟨.one (aggP qs), [b], []⟩ :: acc) K ⟨(d, .one (aggP qs)) :: sl, bx⟩) (hk : Nat.ble (o + k) ps.length = true := by exact rfl) (hl : lk b = false := by exact rfl) : RG P En n full (⟨some d, .load T x, ty, pos, after, none⟩ :: rest) acc K ⟨sl, bx⟩ := jS (bZ8 hx hb hk hq hl) t
theorem jE {x : Operand} {T E : TypeId} {p : Pd} {k : Nat} [CLen p k] [CSlice P T E] (hx : osd sl x = some (.one p)) (t : RG P En n full rest (⟨.one (ex (.int .i64 k)), [], []⟩ :: acc) K ⟨(d, .one (ex (.int .i64 k))) :: sl, bx⟩) : RG P En n full (⟨some d, .call ⟨.builtin .len, #[x], #[T]⟩, ty, pos, after, none⟩ :: rest) acc K ⟨sl, bx⟩ := jS (bZo hx CSlice.ok) t
theorem jq {q x y : Operand} {sd : SD} (hc : osd sl q = some (.one (ex (.bool true)))) (hx : osd sl x = some sd) (t : RG P En n full rest (⟨sd, [], []⟩ :: acc) K ⟨(d, sd) :: sl, bx⟩) : RG P En n full (⟨some d, .pick q x y, ty, pos, after, none⟩ :: rest) acc K ⟨sl, bx⟩ := jS (dZj hc hx) t
theorem jQ {q x y : Operand} {sd : SD} (hc : osd sl q = some (.one (ex (.bool false)))) (hx : osd sl y = some sd) (t : RG P En n full rest (⟨sd, [], []⟩ :: acc) K ⟨(d, sd) :: sl, bx⟩) : RG P En n full (⟨some d, .pick q x y, ty, pos, after, none⟩ :: rest) acc K ⟨sl, bx⟩ := jS (cZT hc hx) t
theorem jx' {x : Operand} {i : Nat} {ps : List Pd} {p : Pd} (hx : osd sl x = some (.one (tupP ps))) (hp : ps[i]? = some p) (t : RG P En n full rest (⟨.one p, [], []⟩ :: acc) K ⟨(d, .one p) :: sl, bx⟩) : RG P En n full (⟨some d, .extract x i, ty, pos, after, none⟩ :: rest) acc K ⟨sl, bx⟩ := jS (kZB hx hp) t
theorem jgm {g tt : Nat} {b : Bool} {x : Operand} {sd : SD} (hx : osd sl x = some sd) (t : RG P En n full rest (⟨sd, [], []⟩ :: acc) K ⟨(d, sd) :: sl, bx⟩) (hd : (full.toArray[g]?).bind (·.dst) = some tt := by exact rfl) (ht : look sl tt = some (.one (ex (.bool b))) := by exact rfl) : RG P En n full (⟨some d, .move x, ty, pos, after, some (g, b)⟩ :: rest) acc K ⟨sl, bx⟩ := jg (dZD hx) t hd ht
theorem jgf {g tt : Nat} {q : Bool} {S : TypeId} {x : Operand} {f off b o o' : Nat} [CField P S f off] (hx : osd sl x = some (.ptr b o)) (ho : o + off = o') (t : RG P En n full rest (⟨.ptr b o', [], []⟩ :: acc) K ⟨(d, .ptr b o') :: sl, bx⟩) (hd : (full.toArray[g]?).bind (·.dst) = some tt := by exact rfl) (ht : look sl tt = some (.one (ex (.bool q))) := by exact rfl) : RG P En n full (⟨some d, .fieldAddr S x f, ty, pos, after, some (g, q)⟩ :: rest) acc K ⟨sl, bx⟩ := jg (eZB hx ho) t hd ht
theorem jgl {g tt : Nat} {q : Bool} {T : TypeId} {x : Operand} {b o : Nat} {ps : List Pd} {p : Pd} [COne P T] (hx : osd sl x = some (.ptr b o)) (hb : look bx b = some ps) (hp : ps[o]? = some p) (t : RG P En n full rest (⟨.one p, [b], []⟩ :: acc) K ⟨(d, .one p) :: sl, bx⟩) (hd : (full.toArray[g]?).bind (·.dst) = some tt := by exact rfl) (ht : look sl tt = some (.one (ex (.bool q))) := by exact rfl) (hl : lk b = false := by exact rfl) : RG P En n full (⟨some d, .load T x, ty, pos, after, some (g, q)⟩ :: rest) acc K ⟨sl, bx⟩ := jg (aZ9 hx hb hp hl) t hd ht
theorem rtT {σ : St} {fn : Func} {t : Nat} {p : Pd} (hf : fn.results = #[.tmp t]) (h : look σ.sl t = some (.one p)) : hZg P fn σ p := ret1 hf (.tmp h) (PLe.refl _)
theorem rtC {σ : St} {fn : Func} {t b k : Nat} {T : TypeId} {ps : List Pd} [CRow P T k] (hf : fn.results = #[.cell t T]) (h : look σ.sl t = some (.ptr b 0)) (hb : look σ.bx b = some ps) (hk : Nat.beq ps.length k = true := by exact rfl) (hl : lk b = false := by exact rfl) : hZg P fn σ (aggP ps) := ret1 hf (.cell h hb CRow.ok hk hl) (PLe.refl _)
theorem rtD {σ : St} {fn : Func} {t b k u : Nat} {T : TypeId} {ps : List Pd} {p : Pd} [CRow P T k] (hf : fn.results = #[.cell t T, .tmp u]) (h : look σ.sl t = some (.ptr b 0)) (hb : look σ.bx b = some ps) (hu : look σ.sl u = some (.one p)) (hk : Nat.beq ps.length k = true := by exact rfl) (hl : lk b = false := by exact rfl) : hZg P fn σ (tupP [aggP ps, p]) := ret2 hf (.cell h hb CRow.ok hk hl) (.tmp hu) (PLe.refl _)
theorem jV {s l : Sl} {bs : Bx} {t : Nat} {p q : Pd} (h : look s t = some (.one q)) (r : fZe s bs l) (e : PLe q p := by exact PLe.refl _) : fZe s bs ((t, .one p) :: l) := ⟨⟨_, h, e⟩, trivial, r⟩
end
theorem wS (i : Nat) (h : i < 9223372036854775807) : IntKind.i64.wrap ((i : Int) + 1) = ((i + 1 : Nat) : Int) := by rw [IntWalk.i64_in _ ⟨oM, oM⟩]; rfl
end
section
open Go.RowKit Limb
def sgnZ (s : Bool) (x : Nat) : Int := if s then -(x : Int) else (x : Int)
def zv (s : Bool) (l : List Nat) : Int := sgnZ s (val l)
def zR (s : Bool) (l : List Nat) : Pd := aggP [ex (.bool s), mag l]
def zC (z : Int) : Pd := zR (decide (z < 0)) (digs z.natAbs)
instance (s : Bool) (l : List Nat) : CPart (zR s l) [ex (.bool s), mag l] := ⟨.inr rfl⟩
instance (z : Int) : CPart (zC z) [ex (.bool (decide (z < 0))), mag (digs z.natAbs)] := ⟨.inr rfl⟩
def aZL (z : Int) : List Pd := [ex (.bool (decide (z < 0))), mag (digs z.natAbs)]
theorem zv_C (z : Int) : zv (decide (z < 0)) (digs z.natAbs) = z := by
 unfold zv sgnZ
 rw [aZi]
 by_cases h : z < 0
 ·rw [decide_eq_true h]; simp; omega
 ·rw [decide_eq_false h]; simp; omega
theorem lZl : PLe (aggP [ex (.bool false), ex (.slice none 0 0)]) (zC 0) := by
 rintro h v ⟨vs, rfl, ha⟩
 obtain ⟨u, x, rfl, hu, hx⟩ := ha.two
 exact ⟨_, rfl, hu, hx.2.1, eZx _ _ hx.1, hx.2.2, trivial⟩
theorem eZQ (s : Bool) (x : Nat) : (sgnZ s x).natAbs = x := by unfold sgnZ; cases s <;> simp
theorem jZd (s : Bool) (l : List Nat) : (zv s l).natAbs = val l := eZQ s _
theorem oZa {s : Bool} {x : Nat} (hx : x ≠ 0) : decide (sgnZ s x < 0) = s := by unfold sgnZ; cases s <;> simp <;> omega
theorem zC_sgn {s : Bool} {x : Nat} (hx : x ≠ 0) : zC (sgnZ s x) = aggP [ex (.bool s), mag (digs x)] := by
 unfold zC zR
 rw [oZa hx, eZQ]
theorem fZ6 (n : Nat) : (((digs n).length : Int) == 0) = decide (n = 0) := by
 by_cases h : n = 0
 ·subst h; rfl
 ·rw [decide_eq_false h, aZR h]; simp; omega
theorem aZW {l : List Nat} {k : Nat} (h : l.length ≤ k) (hl : Lm l) : (digs (val l)).length ≤ k := Nat.le_trans (aZw (bZ2 hl)) h
theorem jZp (s t : Bool) (x y : Nat) : sgnZ s x * sgnZ t y = sgnZ (s != t) (x * y) := by
 unfold sgnZ; cases s <;> cases t <;> simp [Int.neg_mul, Int.mul_neg]
theorem cZn {X Y q r : Int} (hY : Y ≠ 0) (h : X = Y * q + r) (h0 : 0 ≤ r) (h1 : r < Y.natAbs) : X / Y = q ∧ X % Y = r := by
 have hm : X % Y = r := by
  rw [h, Int.mul_add_emod_self_left]
  rcases Int.lt_or_lt_of_ne hY with hn | hp
  ·rw [← Int.emod_neg]; exact Int.emod_eq_of_lt h0 oM
  ·exact Int.emod_eq_of_lt h0 oM
 refine ⟨?_, hm⟩
 have h2 := Int.mul_ediv_add_emod X Y
 rw [hm, h] at h2
 have h3 : Y * ((Y * q + r) / Y) = Y * q := oM
 rw [h]
 exact Int.eq_of_mul_eq_mul_left hY h3
theorem pZV {s s' : Bool} {x y : Nat} (hy : y ≠ 0) (h : s = false ∨ x % y = 0) : sgnZ s x / sgnZ s' y = sgnZ (s != s') (x / y) ∧ sgnZ s x % sgnZ s' y = ((x % y : Nat) : Int) := by
 have e := Nat.div_add_mod x y
 have hlt := Nat.mod_lt x (Nat.pos_of_ne_zero hy)
 have ec : (x : Int) = (y : Int) * ((x / y : Nat) : Int) + ((x % y : Nat) : Int) := by exact_mod_cast e.symm
 refine cZn (by unfold sgnZ; split <;> omega) ?_ oM (by rw [eZQ]; omega)
 unfold sgnZ
 generalize ((x / y : Nat) : Int) = q at *
 rcases h with rfl | h
 ·generalize ((x % y : Nat) : Int) = r at *
  cases s' <;> simp [Int.neg_mul, Int.mul_neg] <;> omega
 ·rw [h] at ec ⊢
  cases s <;> cases s' <;> simp [Int.neg_mul, Int.mul_neg] <;> omega
theorem oZd {s' : Bool} {x y : Nat} (hy : y ≠ 0) (h : x % y ≠ 0) : sgnZ true x / sgnZ s' y = sgnZ (!s') (x / y + 1) ∧ sgnZ true x % sgnZ s' y = ((y - x % y : Nat) : Int) := by
 have e := Nat.div_add_mod x y
 have hlt := Nat.mod_lt x (Nat.pos_of_ne_zero hy)
 have ec : (x : Int) = (y : Int) * ((x / y : Nat) : Int) + ((x % y : Nat) : Int) := by exact_mod_cast e.symm
 refine cZn (by unfold sgnZ; split <;> omega) ?_ oM (by rw [eZQ]; omega)
 rw [Int.ofNat_sub oM]
 unfold sgnZ
 rw [show ((x / y + 1 : Nat) : Int) = ((x / y : Nat) : Int) + 1 from rfl]
 generalize ((x / y : Nat) : Int) = q at *
 generalize ((x % y : Nat) : Int) = r at *
 cases s' <;> simp [Int.neg_mul, Int.mul_neg, Int.mul_add] <;> omega
end
section
open Go.RowKit
theorem eZZ (b o j : Nat) : (⟨b, o, none⟩ : Addr).add j = ⟨b, o + j, none⟩ := by
 unfold Addr.add
 by_cases h : j = 0
 ·subst h; rfl
 ·rw [if_neg h]
theorem iZk (w : World) (b : Nat) (hb : b = w.heap.size) (xs : List Value) (t : TypeId) : ∀ j u, xs[j]? = some u → (w.alloc (.cells xs.toArray t)).cell? ((⟨b, 0, none⟩ : Addr).add j) = some u := by
 intro j u h
 subst hb
 rw [eZZ, World.cell?_alloc_new]
 simpa using h
theorem oZ0 (l : List Value) (h : ∀ u ∈ l, ∃ k n, u = .int k n) : ∀ u ∈ l, u.oneCell' = true := by
 intro u hu
 obtain ⟨k, n, rfl⟩ := h u hu
 rfl
def Rd (w : World) (v : Value) (n : Nat) (xs : List Value) : Prop :=
 ∃ a cap, v = .slice a n cap ∧ n ≤ cap ∧ (cap ≤ maxLen ∧ (a = none → cap = 0)) ∧ (xs ≠ [] → ∃ b off, a = some ⟨b, off, none⟩ ∧ b < w.heap.size ∧ ∀ j u, xs[j]? = some u → w.cell? ⟨b, off + j, none⟩ = some u)
theorem Rd.below {w w' : World} {v : Value} {n : Nat} {xs : List Value} (h : Rd w v n xs) (hb : Below w.heap.size w w') : Rd w' v n xs := by
 obtain ⟨a, cap, rfl, h1, h2, h3⟩ := h
 refine ⟨a, cap, rfl, h1, h2, fun hx => ?_⟩
 obtain ⟨b, off, rfl, hlt, hc⟩ := h3 hx
 refine ⟨b, off, rfl, Nat.lt_of_lt_of_le hlt hb.size, fun j u hj => ?_⟩
 rw [hb.cell (p := ⟨b, off + j, none⟩) hlt]
 exact hc j u hj
theorem Rd.of_owns {w : World} {base e size : Nat} {v : Value} {n : Nat} {xs : List Value} (h : w.ownsRow base e size v n xs) : Rd w v n xs := by
 have hc := @World.ownsRow.cells w base e size v n xs h
 obtain ⟨h1, h2⟩ := h
 rcases h2 with ⟨rfl, rfl⟩ | ⟨g, cap, cur, rfl, _, hg, hn, hm, hs, ht⟩
 ·refine ⟨none, 0, rfl, oM, ⟨by unfold maxLen; omega, fun _ => rfl⟩, fun hx => ?_⟩
  rw [Nat.zero_mul] at h1
  exact absurd (List.length_eq_zero_iff.1 h1) hx
 ·refine ⟨some ⟨g, 0, none⟩, cap, rfl, hn, ⟨hm, fun h => by cases h⟩, fun _ => ⟨g, 0, rfl, (Array.getElem?_eq_some_iff.1 hg).1, fun j u hj => ?_⟩⟩
  have := hc rfl j u hj
  rwa [eZZ] at this
theorem Rd.nil (w : World) : Rd w (.slice none 0 0) 0 [] := ⟨none, 0, rfl, oM, ⟨by unfold maxLen; omega, fun _ => rfl⟩, fun h => absurd rfl h⟩
theorem nZx {w w1 w2 : World} (h1 : Below w.heap.size w w1) (h2 : Below w1.heap.size w1 w2) : Below w.heap.size w w2 := h1.trans (h2.mono h1.size)
end
end Go.Proofs.YtfmjdlogjmofbaaGreatDoor

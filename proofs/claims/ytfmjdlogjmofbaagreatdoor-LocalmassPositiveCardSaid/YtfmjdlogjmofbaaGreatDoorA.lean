/- An abstract walk: what is known of slots and of a call's own boxes; the order in which a region's operations come up does not matter. For any program. -/
import Derived.WalkKit
import Derived.Deep.MidRow
import Derived.Orders
import Derived.Deep.LoopGhost
import Derived.BigCall
import Derived.WalkLawsBesides
import Derived.Test.YtfmjdlogjmofbaaGreatDoorW
set_option maxRecDepth 3000
namespace Go.Proofs.YtfmjdlogjmofbaaGreatDoor
section
open Go.RowKit
abbrev GH:=Nat→Nat→Option Value
def Holds(h:GH)(w:World):Prop:=∀b o v,h b o=some v→w.cell? ⟨b,o,none⟩=some v
def Le(h h':GH):Prop:=∀b o v,h b o=some v→h' b o=some v
theorem Le.refl(h:GH):Le h h:=fun _ _ _ e=>e
theorem Le.trans{a b c:GH}(h:Le a b)(k:Le b c):Le a c:=fun _ _ _ e=>k _ _ _ (h _ _ _ e)
structure Pd where
 p:GH→Value→Prop
 mono:∀h h' v,Le h h'→p h v→p h' v
structure Ev where
 e:World→Prop
 S:Nat→Prop
 lt:∀w,e w→∀k,S k→k<w.heap.size
 mono:∀w w',(∀k,S k→w'.heap[k]? =w.heap[k]?)→e w→e w'
structure Cx where
 I:Nat→Prop
 B:Nat→Nat
def Cx.M(c:Cx):Nat→Prop:=fun k=>∃i,c.I i∧k=c.B i
def c0:Cx:=⟨fun _=>False,fun _=>0⟩
structure BelowM(M:Nat→Prop)(w w':World):Prop where
 os:w'.os=w.os
 tape:w'.tape=w.tape
 output:w'.output=w.output
 size:w.heap.size≤w'.heap.size
 block:∀k,k<w.heap.size→¬M k→w'.heap[k]? =w.heap[k]?
theorem BelowM.refl(M:Nat→Prop)(w:World):BelowM M w w:=⟨rfl,rfl,rfl,Nat.le_refl _,fun _ _ _=>rfl⟩
theorem BelowM.toBelow{w w':World}(h:BelowM (fun _=>False) w w'):Below w.heap.size w w':=⟨h.os,h.tape,h.output,h.size,fun k hk=>h.block k hk (fun h=>h)⟩
theorem BelowM.trans{M:Nat→Prop}{w w1 w2:World}(h:BelowM M w w1)(k:BelowM M w1 w2):BelowM M w w2:=⟨k.os.trans h.os,k.tape.trans h.tape,k.output.trans h.output,Nat.le_trans h.size k.size,fun i hi hm=>(k.block i (Nat.lt_of_lt_of_le hi h.size) hm).trans (h.block i hi hm)⟩
theorem BelowM.below{M:Nat→Prop}{w w1 w2:World}(h:BelowM M w w1)(k:Below w1.heap.size w1 w2):BelowM M w w2:=h.trans ⟨k.os,k.tape,k.output,k.size,fun i hi _=>k.block i hi⟩
theorem BelowM.weaken{M N:Nat→Prop}{w w':World}(h:BelowM M w w')(hm:∀k,M k→N k):BelowM N w w':=⟨h.os,h.tape,h.output,h.size,fun k hk hn=>h.block k hk fun h=>hn (hm k h)⟩
theorem BelowM.drew{M:Nat→Prop}{w w1:World}(h:BelowM M w w1):BelowM M w w1.drew:=⟨h.os,h.tape,h.output,h.size,h.block⟩
def ex(v:Value):Pd:=⟨fun _ u=>u=v,fun _ _ _ _ h=>h⟩
def All2(h:GH):List Pd→List Value→Prop
 |[],[]=>True
 |p::ps,v::vs=>p.p h v∧v.oneCell'=true∧All2 h ps vs
 |_,_=>False
theorem All2.mono{h h':GH}(hl:Le h h'):∀{ps:List Pd} {vs:List Value},All2 h ps vs→All2 h' ps vs
 |[],[],_=>trivial
 |_::_,_::_,⟨a,b,c⟩=>⟨Pd.mono _ _ _ _ hl a,b,All2.mono hl c⟩
 |[],_::_,h=>h.elim
 |_::_,[],h=>h.elim
theorem All2.length{h:GH}:∀{ps:List Pd} {vs:List Value},All2 h ps vs→ps.length=vs.length
 |[],[],_=>rfl
 |_::_,_::_,⟨_,_,c⟩=>by simp[All2.length c]
 |[],_::_,h=>h.elim
 |_::_,[],h=>h.elim
theorem All2.one{h:GH}:∀{ps:List Pd} {vs:List Value},All2 h ps vs→∀v∈vs,v.oneCell'=true
 |[],[],_,v,hv=>by simp at hv
 |_::_,_::_,⟨_,b,c⟩,v,hv=>by
  rcases List.mem_cons.1 hv with rfl|hv
  ·exact b
  ·exact All2.one c v hv
 |[],_::_,h,_,_=>h.elim
 |_::_,[],h,_,_=>h.elim
theorem All2.get{h:GH}:∀{ps:List Pd} {vs:List Value},All2 h ps vs→∀{i:Nat} {p:Pd},ps[i]? =some p→∃v,vs[i]? =some v∧p.p h v∧v.oneCell'=true
 |[],[],_,i,p,hp=>by simp at hp
 |_::_,v::_,⟨a,b,c⟩,0,p,hp=>by simp at hp;subst hp;exact⟨v,rfl,a,b⟩
 |_::_,_::_,⟨a,b,c⟩,i+1,p,hp=>by simpa using All2.get c (by simpa using hp)
 |[],_::_,h,_,_,_=>h.elim
 |_::_,[],h,_,_,_=>h.elim
theorem All2.drop{h:GH}:∀{ps:List Pd} {vs:List Value},All2 h ps vs→∀(i:Nat),All2 h (ps.drop i) (vs.drop i)
 |[],[],_,i=>by simp[All2]
 |_::_,_::_,h,0=>h
 |_::_,_::_,⟨_,_,c⟩,i+1=>by simpa using All2.drop c i
 |[],_::_,h,_=>h.elim
 |_::_,[],h,_=>h.elim
theorem All2.take{h:GH}:∀{ps:List Pd} {vs:List Value},All2 h ps vs→∀(i:Nat),All2 h (ps.take i) (vs.take i)
 |[],[],_,i=>by simp[All2]
 |_::_,_::_,h,0=>by simp[All2]
 |_::_,_::_,⟨a,b,c⟩,i+1=>by simpa [All2] using⟨a,b,All2.take c i⟩
 |[],_::_,h,_=>h.elim
 |_::_,[],h,_=>h.elim
theorem All2.append{h:GH}:∀{ps qs:List Pd} {vs us:List Value},All2 h ps vs→All2 h qs us→All2 h (ps++qs) (vs++us)
 |[],_,[],_,_,k=>k
 |_::_,_,_::_,_,⟨a,b,c⟩,k=>⟨a,b,All2.append c k⟩
 |[],_,_::_,_,h,_=>h.elim
 |_::_,_,[],_,h,_=>h.elim
def AllV(h:GH):List Pd→List Value→Prop
 |[],[]=>True
 |p::ps,v::vs=>p.p h v∧AllV h ps vs
 |_,_=>False
theorem AllV.mono{h h':GH}(hl:Le h h'):∀{ps:List Pd} {vs:List Value},AllV h ps vs→AllV h' ps vs
 |[],[],_=>trivial
 |_::_,_::_,⟨a,c⟩=>⟨Pd.mono _ _ _ _ hl a,AllV.mono hl c⟩
 |[],_::_,h=>h.elim
 |_::_,[],h=>h.elim
theorem AllV.get{h:GH}:∀{ps:List Pd} {vs:List Value},AllV h ps vs→∀{i:Nat} {p:Pd},ps[i]? =some p→∃v,vs[i]? =some v∧p.p h v
 |[],[],_,i,p,hp=>by simp at hp
 |_::_,v::_,⟨a,c⟩,0,p,hp=>by simp at hp;subst hp;exact⟨v,rfl,a⟩
 |_::_,_::_,⟨a,c⟩,i+1,p,hp=>by simpa using AllV.get c (by simpa using hp)
 |[],_::_,h,_,_,_=>h.elim
 |_::_,[],h,_,_,_=>h.elim
theorem AllV.length{h:GH}:∀{ps:List Pd} {vs:List Value},AllV h ps vs→ps.length=vs.length
 |[],[],_=>rfl
 |_::_,_::_,⟨_,c⟩=>by simp[AllV.length c]
 |[],_::_,h=>h.elim
 |_::_,[],h=>h.elim
def cD(ps:List Pd):Pd:=⟨fun h v=>∃vs:List Value,v= .agg vs.toArray∧All2 h ps vs,fun _ _ _ hl ⟨vs,e,a⟩=>⟨vs,e,a.mono hl⟩⟩
def dK(ps:List Pd):Pd:=⟨fun h v=>∃vs:List Value,v= .tuple vs.toArray∧AllV h ps vs,fun _ _ _ hl ⟨vs,e,a⟩=>⟨vs,e,a.mono hl⟩⟩
def PLe(p q:Pd):Prop:=∀h v,p.p h v→q.p h v
theorem PLe.refl(p:Pd):PLe p p:=fun _ _ h=>h
class C1(p:Pd):Prop where
 c1:∀h v,p.p h v→v.oneCell'=true
instance(b:Bool):C1 (ex (.bool b)):=⟨fun _ _ h=>by rw[h];rfl⟩
instance(k:IntKind)(n:Int):C1 (ex (.int k n)):=⟨fun _ _ h=>by rw[h];rfl⟩
instance(a:Option Addr)(n c:Nat):C1 (ex (.slice a n c)):=⟨fun _ _ h=>by rw[h];rfl⟩
instance(s:ByteArray):C1 (ex (.string s)):=⟨fun _ _ h=>by rw[h];rfl⟩
structure BP where
 bs:List Nat
 q:GH→(Nat→Nat)→Value→Prop
 mono:∀h h' β β' v,Le h h'→(∀b∈bs,β' b=β b)→q h β v→q h' β' v
inductive SD where
 |one (p:Pd)
 |ptr (b o:Nat)
 |own (b o len cap:Nat)
 |app (b k len:Nat)
 |clo (f:FuncId) (bs:List (Nat×Nat))
 |pin (b x:Nat)
 |gen (g:BP)
def eZO(β:Nat→Nat)(x:Nat×Nat):Value:= .pointer (some ⟨β x.1,x.2,none⟩)
def SD.ok(h:GH)(β:Nat→Nat)(v:Value):SD→Prop
 | .one p=>p.p h v
 | .ptr b o=>v= .pointer (some ⟨β b,o,none⟩)
 | .own b o len cap=>∃cap',v= .slice (some ⟨β b,o,none⟩) len cap'∧cap≤cap'∧cap'≤maxLen
 | .app b k len=>(v= .slice none 0 0∧len=0)∨∃cap,v= .slice (some ⟨β b,0,none⟩) len cap∧0<len∧len≤cap∧cap≤maxLen∧cap*k=β (b+250)
 | .clo f bs=>v= .func (.func f) #[] (bs.map (eZO β)).toArray
 | .pin b x=>β b=x
 | .gen g=>g.q h β v
def aB{α:Type}:List (Nat×α)→Nat→Option α
 |[],_=>none
 |(k,x)::l,t=>cond (Nat.beq k t) (some x) (aB l t)
theorem aC{α:Type}(k:Nat)(x:α)(l:List (Nat×α))(t:Nat):aB ((k,x)::l) t=if k=t then some x else aB l t:=by
 show cond (Nat.beq k t) _ _=_
 by_cases h:k=t
 ·subst h;simp
 ·have:Nat.beq k t=false:=by cases hh:Nat.beq k t;rfl;exact absurd (Nat.eq_of_beq_eq_true hh) h
  rw[this,if_neg h];rfl
theorem cQ{α:Type}(l m:List (Nat×α))(t:Nat):aB (l++m) t=(aB l t).or (aB m t):=by
 induction l with
 |nil=>simp[aB]
 |cons x l ih=>
  obtain⟨k,x⟩:=x;rw[List.cons_append,aC,aC,ih];split<;>simp
theorem nF{α:Type}{l:List (Nat×α)}{t:Nat}(h:t∉l.map (·.1)):aB l t=none:=by
 induction l with
 |nil=>rfl
 |cons x l ih=>
  obtain⟨k,x⟩:=x;simp at h;rw[aC,if_neg (fun e=>h.1 (Eq.symm e)),ih (by simpa using h.2)]
theorem aZk{α:Type}{l:List (Nat×α)}{t:Nat}(h:aB l t=none):t∉l.map (·.1):=by
 induction l with
 |nil=>simp
 |cons y l ih=>
  obtain⟨k,y⟩:=y;rw[aC] at h;split at h
  ·cases h
  ·rename_i e
   rw[List.map_cons,List.mem_cons,not_or];exact⟨fun h=>e h.symm,ih h⟩
theorem kS{α:Type}{l:List (Nat×α)}{t:Nat}{x:α}(h:aB l t=some x):(t,x)∈l:=by
 induction l with
 |nil=>cases h
 |cons y l ih=>
  obtain⟨k,y⟩:=y;rw[aC] at h;split at h
  ·rename_i e;subst e;cases h;simp
  ·exact List.mem_cons_of_mem _ (ih h)
abbrev Bx:=List (Nat×List Pd)
abbrev Sl:=List (Nat×SD)
def SD.live(bx:Bx):SD→Prop
 | .one _=>True
 | .ptr b _=>aB bx b≠none
 | .own b _ _ _=>aB bx b≠none
 | .app b _ _=>aB bx b≠none∧aB bx (b+250)≠none
 | .clo _ bs=>∀x∈bs,aB bx x.1≠none
 | .pin b _=>aB bx b≠none
 | .gen g=>∀b∈g.bs,aB bx b≠none
theorem SD.ok_mono{h h':GH}{β β':Nat→Nat}{bx:Bx}{v:Value}{sd:SD}(hs:sd.ok h β v)(hl:sd.live bx)(hle:Le h h')(hβ:∀i,aB bx i≠none→β' i=β i):sd.ok h' β' v:=by
 cases sd with
 |one p=>exact p.mono _ _ _ hle hs
 |ptr b o=>show v=_;rw[hβ b hl];exact hs
 |own b o len cap=>show ∃cap',v=_∧_;rw[hβ b hl];exact hs
 |app b k len=>show(_∧_)∨_;rw[hβ b hl.1,hβ (b+250) hl.2];exact hs
 |clo f bs=>
  have:bs.map (eZO β')=bs.map (eZO β):=List.map_congr_left fun x hx=>by unfold eZO;rw[hβ x.1 (hl x hx)]
  show v=_;rw[this];exact hs
 |pin b x=>show β' b=x;rw[hβ b hl];exact hs
 |gen g=>exact g.mono _ _ _ _ _ hle (fun b hb=>hβ b (hl b hb)) hs
theorem SD.live_append{bx wb:Bx}{sd:SD}(hl:sd.live bx):sd.live (wb++bx):=by
 have:∀b,aB bx b≠none→aB (wb++bx) b≠none:=fun b hb=>by rw[cQ];cases hq:aB wb b<;>simp;exact hb
 cases sd with
 |one p=>trivial
 |ptr b o=>exact this b hl
 |own b o len cap=>exact this b hl
 |app b k len=>exact⟨this b hl.1,this _ hl.2⟩
 |clo f bs=>exact fun x hx=>this x.1 (hl x hx)
 |pin b x=>exact this b hl
 |gen g=>exact fun b hb=>this b (hl b hb)
def grows(i:Nat):Prop:=500≤i∧i<750
instance(i:Nat):Decidable (grows i):=by unfold grows;exact inferInstance
def lk(i:Nat):Bool:=(Nat.ble 400 i&&Nat.blt i 500)||(Nat.ble 700 i&&Nat.blt i 750)||Nat.ble 1750 i
def tr(β:Nat→Nat):Value→Value
 | .slice (some ⟨r,o,none⟩) l c=>if grows r then .slice (some ⟨β r,0,none⟩) l (β (r+250)/o) else .slice (some ⟨β r,o,none⟩) l c
 |v=>v
def tI(i:Nat)(β:Nat→Nat)(vs:List Value):List Value:=bif lk i then vs.map (tr β) else vs
def oK(β:Nat→Nat)(bx:List (Nat×List Pd))(v:Value):Prop:=∀r o l c,v= .slice (some ⟨r,o,none⟩) l c→aB bx r≠none∧
 (grows r→aB bx (r+250)≠none∧0<o∧0<l∧l≤β (r+250)/o∧β (r+250)/o≤maxLen∧β (r+250)/o*o=β (r+250))
def pB(i:Nat)(β:Nat→Nat)(bx:List (Nat×List Pd))(vs:List Value):Prop:=lk i=true→∀v∈vs,oK β bx v
theorem dW{i:Nat}(h:lk i=false)(β:Nat→Nat)(vs:List Value):tI i β vs=vs:=by unfold tI;rw[h];rfl
theorem eZ5(i:Nat)(β:Nat→Nat)(vs:List Value):(tI i β vs).length=vs.length:=by unfold tI;cases lk i<;>simp
theorem cZ{i:Nat}(h:lk i=false)(β:Nat→Nat)(bx:List (Nat×List Pd))(vs:List Value):pB i β bx vs:=fun e=>by rw[h] at e;cases e
theorem kM{β β':Nat→Nat}{bx bx':List (Nat×List Pd)}{v:Value}(h:oK β bx v)(hb:∀i,aB bx i≠none→aB bx' i≠none∧β' i=β i):oK β' bx' v∧tr β' v=tr β v:=by
 have key:∀r o l c,v= .slice (some ⟨r,o,none⟩) l c→β' r=β r∧(grows r→β' (r+250)=β (r+250)):=fun r o l c e=>by
  obtain⟨h1,h2⟩:=h r o l c e;exact⟨(hb r h1).2,fun hg=>(hb _ (h2 hg).1).2⟩
 refine⟨fun r o l c e=>?_,?_⟩
 ·obtain⟨h1,h2⟩:=h r o l c e
  refine⟨(hb r h1).1,fun hg=>?_⟩;obtain⟨g1,g2⟩:=h2 hg;rw[(hb _ g1).2];exact⟨(hb _ g1).1,g2⟩
 ·unfold tr
  split
  ·rename_i r o l c
   obtain⟨k1,k2⟩:=key r o l c rfl;split
   ·rename_i hg;rw[k1,k2 hg]
   ·rw[k1]
  ·rfl
theorem fK{i:Nat}{β β':Nat→Nat}{bx bx':List (Nat×List Pd)}{vs:List Value}(h:pB i β bx vs)(hb:∀i,aB bx i≠none→aB bx' i≠none∧β' i=β i):pB i β' bx' vs∧tI i β' vs=tI i β vs:=by
 refine⟨fun e v hv=>(kM (h e v hv) hb).1,?_⟩;unfold tI;cases hl:lk i with
 |false=>rfl
 |true=>exact List.map_congr_left fun v hv=>(kM (h hl v hv) hb).2
theorem jJ{i:Nat}{β:Nat→Nat}{bx bx':List (Nat×List Pd)}{vs:List Value}(h:pB i β bx vs)(hb:∀i,aB bx i≠none→aB bx' i≠none):pB i β bx' vs:=(fK h fun i hi=>⟨hb i hi,rfl⟩).1
structure Inv(En:Ev)(w0:World)(h0:GH)(c:Cx)(h:GH)(β:Nat→Nat)(bx:Bx)(w:World):Prop where
 env:En.e w0
 holds:Holds h w
 le0:Le h0 h
 fresh:∀b o v,h b o=some v→h0 b o=none→w0.heap.size≤b
 below:BelowM c.M w0 w
 dis:∀k,c.M k→¬En.S k
 pin:∀i,1000≤i→β i=c.B i
 box:∀i ps,aB bx i=some ps→ps≠[]→((i<1000→w0.heap.size≤β i)∧(1000≤i→c.I i))∧(∀o,h (β i) o=none)∧∃(vs rest:List Value) (T:TypeId),w.heap[β i]? =some (.cells (tI i β vs++rest).toArray T (0,0))∧All2 h ps vs∧(grows i→(vs++rest).length=β (i+250))∧pB i β bx vs
 inj:∀i j ps qs,aB bx i=some ps→ps≠[]→aB bx j=some qs→qs≠[]→β i=β j→i=j
structure Slots(n:Nat)(h:GH)(β:Nat→Nat)(sl:Sl)(bx:Bx)(a:Act):Prop where
 defers:a.defers=[]
 size:a.tmps.size=n
 slot:∀t sd,aB sl t=some sd→∃v,a.tmps[t]? =some v∧sd.ok h β v∧sd.live bx
theorem Inv.box0{En:Ev}{w0:World}{h0:GH}{c:Cx}{h:GH}{β:Nat→Nat}{bx:Bx}{w:World}(hi:Inv En w0 h0 c h β bx w)(i:Nat)(ps:List Pd)(hp:aB bx i=some ps)(hps:ps≠[])(hl:lk i=false):
  ((i<1000→w0.heap.size≤β i)∧(1000≤i→c.I i))∧(∀o,h (β i) o=none)∧∃(vs rest:List Value) (T:TypeId),w.heap[β i]? =some (.cells (vs++rest).toArray T (0,0))∧All2 h ps vs∧(grows i→(vs++rest).length=β (i+250)):=by
 obtain⟨h1,h2,vs,rest,T,h3,h4,h5,_⟩:=hi.box i ps hp hps;rw[dW hl] at h3;exact⟨h1,h2,vs,rest,T,h3,h4,h5⟩
structure St where
 sl:Sl
 bx:Bx
def Gam(En:Ev)(n:Nat)(w0:World)(h0:GH)(c:Cx)(σ:St)(a:Act)(w:World):Prop:=
 ∃h β,Inv En w0 h0 c h β σ.bx w∧Slots n h β σ.sl σ.bx a
def wB{α:Type}(l m:List (Nat×α)):Prop:=∀t,aB l t=aB m t
theorem SD.live_alike{bx bx':Bx}(h:wB bx bx')(sd:SD):sd.live bx↔sd.live bx':=by
 cases sd with
 |one p=>exact Iff.rfl
 |ptr b o=>show aB bx b≠none↔aB bx' b≠none;rw[h b]
 |own b o l k=>show aB bx b≠none↔aB bx' b≠none;rw[h b]
 |app b k l=>show(_∧_)↔(_∧_);rw[h b,h (b+250)]
 |clo f bs=>show(∀x∈bs,aB bx x.1≠none)↔(∀x∈bs,aB bx' x.1≠none);constructor<;>intro H x hx<;>have:=H x hx<;>first|rwa[←h x.1]|rwa[h x.1]
 |pin b x=>show aB bx b≠none↔aB bx' b≠none;rw[h b]
 |gen g=>show(∀b∈g.bs,aB bx b≠none)↔(∀b∈g.bs,aB bx' b≠none);constructor<;>intro H b hb<;>have:=H b hb<;>first|rwa[←h b]|rwa[h b]
theorem Inv.alike{En:Ev}{w0:World}{h0:GH}{c:Cx}{h:GH}{β:Nat→Nat}{bx bx':Bx}{w:World}(hi:Inv En w0 h0 c h β bx w)(ha:wB bx bx'):Inv En w0 h0 c h β bx' w:=
 ⟨hi.env,hi.holds,hi.le0,hi.fresh,hi.below,hi.dis,hi.pin,fun i ps hp hps=>by
  obtain⟨h1,h2,vs,rest,T,h3,h4,h5,h6⟩:=hi.box i ps (by rw[ha i];exact hp) hps
  exact⟨h1,h2,vs,rest,T,h3,h4,h5,jJ h6 fun i hi=>by rw[←ha i];exact hi⟩,fun i j ps qs h1 h2 h3 h4=>hi.inj i j ps qs (by rw[ha i];exact h1) h2 (by rw[ha j];exact h3) h4⟩
theorem Slots.alike{n:Nat}{h:GH}{β:Nat→Nat}{sl sl':Sl}{bx bx':Bx}{a:Act}(hs:Slots n h β sl bx a)(h1:wB sl sl')(h2:wB bx bx'):Slots n h β sl' bx' a:=
 ⟨hs.defers,hs.size,fun t sd e=>by
  obtain⟨v,x,y,z⟩:=hs.slot t sd (by rw[h1 t];exact e)
  exact⟨v,x,y,(SD.live_alike h2 sd).1 z⟩⟩
theorem Gam.alike{En:Ev}{n:Nat}{w0:World}{h0:GH}{c:Cx}{σ τ:St}{a:Act}{w:World}(h:Gam En n w0 h0 c σ a w)(h1:wB σ.sl τ.sl)(h2:wB σ.bx τ.bx):Gam En n w0 h0 c τ a w:=by
 obtain⟨h',β,hi,hs⟩:=h;exact⟨h',β,hi.alike h2,hs.alike h1 h2⟩
section
variable{En:Ev}{w0:World}{h0:GH}{c:Cx}{h:GH}{β:Nat→Nat}{bx:Bx}{w:World}
theorem dB{b:Nat}{o:Obj}(h:w.heap[b]? =some o):b<w.heap.size:=(Array.getElem?_eq_some_iff.1 h).1
theorem Holds.lt(hh:Holds h w){b o:Nat}{v:Value}(e:h b o=some v):b<w.heap.size:=by
 have:=hh b o v e;unfold World.cell? at this;cases hb:w.heap[b]? with
 |none=>simp[hb] at this
 |some x=>exact dB hb
theorem Inv.envNow(hi:Inv En w0 h0 c h β bx w):En.e w:=En.mono _ _ (fun k hk=>hi.below.block k (En.lt _ hi.env k hk) (fun hm=>hi.dis k hm hk)) hi.env
theorem Inv.drew(hi:Inv En w0 h0 c h β bx w):Inv En w0 h0 c h β bx w.drew:=
 ⟨hi.env,hi.holds,hi.le0,hi.fresh,hi.below.drew,hi.dis,hi.pin,hi.box,hi.inj⟩
def upd(β:Nat→Nat)(i b:Nat):Nat→Nat:=fun j=>if j=i then b else β j
theorem eT{i:Nat}(h:i<400):lk i=false:=by
 unfold lk;rw[show Nat.ble 400 i=false by cases e:Nat.ble 400 i;rfl;exact absurd (Nat.le_of_ble_eq_true e) oM,show Nat.ble 700 i=false by cases e:Nat.ble 700 i;rfl;exact absurd (Nat.le_of_ble_eq_true e) oM,show Nat.ble 1750 i=false by cases e:Nat.ble 1750 i;rfl;exact absurd (Nat.le_of_ble_eq_true e) oM]
 rfl
theorem Inv.alloc(hi:Inv En w0 h0 c h β bx w)(i:Nat)(hi0:i<400)(hni:aB bx i=none){ps:List Pd}{vs:List Value}(ha:All2 h ps vs)(T:TypeId):
  Inv En w0 h0 c h (upd β i w.heap.size) ((i,ps)::bx) (w.alloc (.cells vs.toArray T)):=by
 have hsz:=hi.below.size;refine⟨hi.env,fun b o v e=>?_,hi.le0,hi.fresh,hi.below.below ((Below.refl _ _).alloc (Nat.le_refl _) _),hi.dis,fun j hj=>?_,fun j qs hj hq=>?_,fun j k rs qs hj hr hk hq e=>?_⟩
 ·rw[World.cell?_of_block (w:=w) (a:=⟨b,o,none⟩) (Below.heap_alloc w _ b (hi.holds.lt e))]
  exact hi.holds b o v e
 ·rw[←hi.pin j hj];unfold upd;rw[if_neg oM]
 ·rw[aC] at hj
  by_cases e:i=j
  ·subst e
   rw[if_pos rfl] at hj;cases hj
   have eu:upd β i w.heap.size i=w.heap.size:=by unfold upd;rw[if_pos rfl]
   rw[eu];refine⟨⟨fun _=>hsz,fun h=>absurd hi0 oM⟩,fun o=>?_,vs,[],T,by rw[List.append_nil,dW (eT hi0)];exact heap_alloc_new w _,ha,fun hg=>absurd hg.1 oM,cZ (eT hi0) _ _ _⟩
   cases hh:h w.heap.size o with
   |none=>rfl
   |some v=>exact absurd (hi.holds.lt hh) (Nat.lt_irrefl _)
  ·rw[if_neg e] at hj
   have eu:upd β i w.heap.size j=β j:=by unfold upd;rw[if_neg (fun h=>e (Eq.symm h))]
   rw[eu];obtain⟨h1,h2,us,rs,T',h3,h4,h5,h6⟩:=hi.box j qs hj hq;obtain⟨k1,k2⟩:=fK (β':=upd β i w.heap.size) (bx':=(i,ps)::bx) h6 fun r hr=>⟨by rw[aC];split<;>simp;exact hr,by unfold upd;rw[if_neg (by rintro rfl;exact hr hni)]⟩
   exact⟨h1,h2,us,rs,T',by rw[Below.heap_alloc w _ _ (dB h3),k2];exact h3,h4,fun hg=>by rw[h5 hg];unfold upd;rw[if_neg (by have:=hg.1;omega)],k1⟩
 ·have hlt:∀k qs,aB bx k=some qs→qs≠[]→β k<w.heap.size:=fun k qs hk hq=>by
   obtain⟨_,_,us,rs,T',h3,_⟩:=hi.box k qs hk hq;exact dB h3
  rw[aC] at hj hk;unfold upd at e
  by_cases e1:j=i<;>by_cases e2:k=i
  ·rw[e1,e2]
  ·rw[if_pos e1,if_neg e2] at e
   rw[if_neg (fun h=>e2 (Eq.symm h))] at hk;have:=hlt k _ hk hq;omega
  ·rw[if_neg e1,if_pos e2] at e
   rw[if_neg (fun h=>e1 (Eq.symm h))] at hj;have:=hlt j _ hj hr;omega
  ·rw[if_neg e1,if_neg e2] at e
   rw[if_neg (fun h=>e1 (Eq.symm h))] at hj;rw[if_neg (fun h=>e2 (Eq.symm h))] at hk;exact hi.inj j k _ _ hj hr hk hq e
def eW{α:Type}:List α→Nat→List α→List α
 |l,_,[]=>l
 |l,o,x::xs=>eW (l.set o x) (o+1) xs
theorem All2.set{h:GH}:∀{ps:List Pd} {vs:List Value},All2 h ps vs→∀(o:Nat) {p:Pd} {v:Value},p.p h v→v.oneCell'=true→All2 h (ps.set o p) (vs.set o v)
 |[],[],_,o,_,_,_,_=>by simp[All2]
 |_::_,_::_,⟨_,_,c⟩,0,_,_,hp,h1=>⟨hp,h1,c⟩
 |_::_,_::_,⟨a,b,c⟩,o+1,_,_,hp,h1=>⟨a,b,All2.set c o hp h1⟩
 |[],_::_,h,_,_,_,_,_=>h.elim
 |_::_,[],h,_,_,_,_,_=>h.elim
theorem All2.put{h:GH}:∀{qs:List Pd} {us:List Value} {ps:List Pd} {vs:List Value} (o:Nat),All2 h ps vs→All2 h qs us→All2 h (eW ps o qs) (eW vs o us)
 |[],[],_,_,_,a,_=>a
 |_::_,_::_,_,_,o,a,⟨x,y,z⟩=>All2.put (o+1) (a.set o x y) z
 |[],_::_,_,_,_,_,h=>h.elim
 |_::_,[],_,_,_,_,h=>h.elim
theorem iO{b:Nat}:∀(us:List Value) (o:Nat) (w:World) (vs:List Value) (T:TypeId) (fr:Nat×Nat),w.heap[b]? =some (.cells vs.toArray T fr)→(w.setCells b o us).heap[b]? =some (.cells (eW vs o us).toArray T fr)
 |[],_,_,_,_,_,h=>h
 |u::us,o,w,vs,T,fr,h=>by
  rw[World.setCells];refine iO us (o+1) _ _ T fr ?_;simp[World.setCell,Array.getElem?_modify,h]
theorem cS{b k:Nat}(hk:k≠b):∀(us:List Value) (o:Nat) (w:World),(w.setCells b o us).heap[k]? =w.heap[k]?
 |[],_,_=>rfl
 |u::us,o,w=>by
  rw[World.setCells,cS hk us (o+1),Below.heap_setCell _ _ _ _ hk]
theorem qL{b:Nat}:∀(us:List Value) (o:Nat) (w:World),(w.setCells b o us).heap.size=w.heap.size
 |[],_,_=>rfl
 |u::us,o,w=>by rw[World.setCells,qL us (o+1)];simp[World.setCell]
theorem uW{b:Nat}:∀(us:List Value) (o:Nat) (w:World),(w.setCells b o us).os=w.os∧(w.setCells b o us).tape=w.tape∧(w.setCells b o us).output=w.output
 |[],_,_=>⟨rfl,rfl,rfl⟩
 |u::us,o,w=>by rw[World.setCells];exact uW us (o+1) _
theorem jY{M:Nat→Prop}{b:Nat}{a:World}(hb:a.heap.size≤b∨M b)(us:List Value)(o:Nat)(w:World)(h:BelowM M a w):BelowM M a (w.setCells b o us):=by
 obtain⟨e1,e2,e3⟩:=uW (b:=b) us o w;refine⟨e1.trans h.os,e2.trans h.tape,e3.trans h.output,by rw[qL];exact h.size,fun k hk hm=>?_⟩
 have hne:k≠b:=by rintro rfl;rcases hb with hb|hb;omega;exact hm hb
 rw[cS hne];exact h.block k hk hm
theorem oY{α:Type}(rest:List α):∀(us vs:List α) (o:Nat),o+us.length≤vs.length→eW (vs++rest) o us=eW vs o us++rest
 |[],_,_,_=>rfl
 |u::us,vs,o,h=>by
  simp only[List.length_cons] at h;simp only[eW];rw[List.set_append_left _ _ oM];exact oY rest us _ _ (by simp;omega)
theorem oW{α:Type}:∀(us vs:List α) (o:Nat),(eW vs o us).length=vs.length
 |[],_,_=>rfl
 |u::us,vs,o=>by rw[eW,oW us];simp
theorem Inv.store(hi:Inv En w0 h0 c h β bx w){i:Nat}{ps:List Pd}(hp:aB bx i=some ps)(hps:ps≠[])(hlk:lk i=false){qs:List Pd}{us:List Value}(ha:All2 h qs us)(o:Nat)(hb:o+qs.length≤ps.length):
  Inv En w0 h0 c h β ((i,eW ps o qs)::bx) (w.setCells (β i) o us):=by
 obtain⟨h1,h2,vs,rest,T,h3,h4,h5⟩:=hi.box0 i ps hp hps hlk;have hne:∀j rs,aB ((i,eW ps o qs)::bx) j=some rs→rs≠[]→∃rs',aB bx j=some rs'∧rs'≠[]:=fun j rs hj hr=>by
  rw[aC] at hj
  by_cases e:i=j
  ·subst e;exact⟨ps,hp,hps⟩
  ·rw[if_neg e] at hj;exact⟨rs,hj,hr⟩
 refine⟨hi.env,fun b o' v e=>?_,hi.le0,hi.fresh,jY (by rcases Nat.lt_or_ge i 1000 with h|h;exact .inl (h1.1 h);exact .inr ⟨i,h1.2 h,hi.pin i h⟩) _ _ _ hi.below,hi.dis,hi.pin,fun j rs hj hr=>?_,fun j k rs ss hj hr hk hs e=>?_⟩
 ·have hb:b≠β i:=by rintro rfl;rw[h2 o'] at e;cases e
  rw[World.cell?_of_block (w:=w) (a:=⟨b,o',none⟩) (cS hb _ _ _)];exact hi.holds b o' v e
 ·rw[aC] at hj
  by_cases e:i=j
  ·subst e
   rw[if_pos rfl] at hj;cases hj
   refine⟨h1,h2,_,rest,T,?_,h4.put o ha,fun hg=>by rw[←h5 hg];simp[oW],cZ hlk _ _ _⟩
   rw[dW hlk,iO us o w _ T _ h3,oY rest us vs o (by rw[←ha.length,←h4.length];exact hb)]
  ·rw[if_neg e] at hj
   obtain⟨g1,g2,us',rs',T',g3,g4,g5,g6⟩:=hi.box j rs hj hr;refine⟨g1,g2,us',rs',T',?_,g4,g5,jJ g6 fun r hr=>by rw[aC];split<;>simp;exact hr⟩
   rw[cS (fun hh=>e (hi.inj i j _ _ hp hps hj hr hh.symm))];exact g3
 ·obtain⟨rs',a1,a2⟩:=hne j rs hj hr
  obtain⟨ss',b1,b2⟩:=hne k ss hk hs;exact hi.inj j k _ _ a1 a2 b1 b2 e
theorem Inv.call(hi:Inv En w0 h0 c h β bx w){h':GH}{w':World}(hl:Le h h')(hh:Holds h' w')(hf:∀b o v,h' b o=some v→h b o=none→w.heap.size≤b)(hb:Below w.heap.size w w'):
  Inv En w0 h0 c h' β bx w':=by
 have hsz:=hi.below.size;refine⟨hi.env,hh,hi.le0.trans hl,fun b o v e e0=>?_,hi.below.below hb,hi.dis,hi.pin,fun j ps hj hp=>?_,hi.inj⟩
 ·cases he:h b o with
  |none=>exact Nat.le_trans hsz (hf b o v e he)
  |some u=>exact hi.fresh b o u he e0
 ·obtain⟨g1,g2,us,rs,T,g3,g4,g5,g6⟩:=hi.box j ps hj hp
  refine⟨g1,fun o=>?_,us,rs,T,by rw[hb.block _ (dB g3)];exact g3,g4.mono hl,g5,g6⟩
  cases he:h' (β j) o with
  |none=>rfl
  |some u=>
   have:=hf _ _ _ he (g2 o);have:=dB g3;omega
end
structure Eff where
 sd:SD
 rb:List Nat
 wb:Bx
def Tri(P:Program)(En:Ev)(n:Nat)(o:Oper)(sl:Sl)(bx:Bx)(e:Eff):Prop:=
 ∀w0 h0 c h β a w (Q:Exit→Act→World→Prop),Inv En w0 h0 c h β bx w→Slots n h β sl bx a→
  o.wp P a w (fun a' w'=>∃v h' β',a'=a.put o.dst v∧Inv En w0 h0 c h' β' (e.wb++bx) w'∧Le h h'∧(∀i,aB bx i≠none→β' i=β i)∧e.sd.ok h' β' v∧e.sd.live (e.wb++bx)) Q
def TriG(P:Program)(En:Ev)(n:Nat)(ops:Array Oper)(o:Oper)(sl:Sl)(bx:Bx)(e:Eff):Prop:=
 ∀w0 h0 c h β a w (Q:Exit→Act→World→Prop),Inv En w0 h0 c h β bx w→Slots n h β sl bx a→
  ∀K:Act→World→Prop,(∀a' w',(∃v h' β',a'=a.put o.dst v∧Inv En w0 h0 c h' β' (e.wb++bx) w'∧Le h h'∧(∀i,aB bx i≠none→β' i=β i)∧e.sd.ok h' β' v∧e.sd.live (e.wb++bx))→K a' w')→
  (if Region.wanted o (yielded ops a.tmps) then o.wp P a w K Q∨(o.asks P a w∧LetsOut Q) else K (a.put o.dst undef) w)
def LT(P:Program)(En:Ev)(n:Nat)(ops:Array Oper)(o:Oper)(sl:Sl)(bx:Bx)(e:Eff):Prop:=
 ∀sl' bx',(∀t∈o.looksAt ops,aB sl' t=aB sl t)→(∀b∈e.rb,aB bx' b=aB bx b)→(∀b∈e.wb.map (·.1),aB bx' b=aB bx b)→TriG P En n ops o sl' bx' e
section
variable{P:Program}{En:Ev}{n:Nat}{ops:Array Oper}{o:Oper}{sl:Sl}{bx:Bx}{e:Eff}
theorem TriG.of_tri(hg:o.guard=none)(h:Tri P En n o sl bx e):TriG P En n ops o sl bx e:=by
 intro w0 h0 c hh β a w Q hi hs K hK;have:Region.wanted o (yielded ops a.tmps)=true:=by simp[Region.wanted,hg]
 rw[if_pos this];exact .inl (Oper.wp_mono hK (h w0 h0 c hh β a w Q hi hs))
theorem TriG.of_run{g t:Nat}{b:Bool}(hg:o.guard=some (g,b))(hd:(ops[g]?).bind (·.dst)=some t)(ht:aB sl t=some (.one (ex (.bool b))))(h:Tri P En n o sl bx e):TriG P En n ops o sl bx e:=by
 intro w0 h0 c hh β a w Q hi hs K hK;obtain⟨v,hv,hok,_⟩:=hs.slot t _ ht;have hv':v= .bool b:=hok;subst hv';have:Region.wanted o (yielded ops a.tmps)=true:=by simp[Region.wanted,hg,yielded,hd,hv]
 rw[if_pos this];exact .inl (Oper.wp_mono hK (h w0 h0 c hh β a w Q hi hs))
theorem TriG.of_skip{g t:Nat}{b:Bool}(hg:o.guard=some (g,b))(hd:(ops[g]?).bind (·.dst)=some t)(ht:aB sl t=some (.one (ex (.bool (!b))))):TriG P En n ops o sl bx ⟨.one (ex undef),[],[]⟩:=by
 intro w0 h0 c hh β a w Q hi hs K hK;obtain⟨v,hv,hok,_⟩:=hs.slot t _ ht;have hv':v= .bool (!b):=hok;subst hv';have:Region.wanted o (yielded ops a.tmps)=false:=by simp[Region.wanted,hg,yielded,hd,hv]
 rw[this];simp only[Bool.false_eq_true,if_false];exact hK _ _ ⟨undef,hh,β,rfl,hi,Le.refl _,fun _ _=>rfl,rfl,trivial⟩
end
def kA(σ:St)(o:Oper)(e:Eff):St:=⟨match o.dst with|some d=>(d,e.sd)::σ.sl|none=>σ.sl,e.wb++σ.bx⟩
theorem fZ1(σ:St)(o:Oper)(e:Eff)(t:Nat)(ht:∀d,o.dst=some d→d≠t):aB (kA σ o e).sl t=aB σ.sl t:=by
 unfold kA;cases hd:o.dst with
 |none=>rfl
 |some d=>simp only;rw[aC,if_neg (ht d hd)]
theorem wL(σ:St)(o:Oper)(e:Eff)(b:Nat)(hb:b∉e.wb.map (·.1)):aB (kA σ o e).bx b=aB σ.bx b:=by
 show aB (e.wb++σ.bx) b=_
 rw[cQ,nF hb];simp
theorem eZN{a:Act}{dst:Option Tmp}{v:Value}{t:Nat}(h:∀d,dst=some d→d≠t):(a.put dst v).tmps[t]? =a.tmps[t]? :=by
 cases dst with
 |none=>rfl
 |some d=>simp[Act.put,Array.getElem?_setIfInBounds_ne (h d rfl)]
theorem sO{En:Ev}{n:Nat}{w0:World}{h0:GH}{c:Cx}{h h':GH}{β β':Nat→Nat}{σ:St}{a:Act}{w':World}{o:Oper}{e:Eff}{v:Value}(hd:∀d,o.dst=some d→d<n)
  (hs:Slots n h β σ.sl σ.bx a) (hi:Inv En w0 h0 c h' β' (e.wb++σ.bx) w') (hl:Le h h') (hβ:∀i,aB σ.bx i≠none→β' i=β i) (hok:e.sd.ok h' β' v) (hlive:e.sd.live (e.wb++σ.bx)):
  Gam En n w0 h0 c (kA σ o e) (a.put o.dst v) w':=by
 refine⟨h',β',hi,?_,?_,fun t sd ht=>?_⟩
 ·cases o.dst<;>exact hs.defers
 ·cases o.dst<;>simp[Act.put,hs.size]
 ·have old:aB σ.sl t=some sd→∃v,a.tmps[t]? =some v∧sd.ok h' β' v∧sd.live (e.wb++σ.bx):=fun ht=>by
   obtain⟨u,hu,ho,hv⟩:=hs.slot t sd ht;exact⟨u,hu,SD.ok_mono ho hv hl hβ,SD.live_append hv⟩
  cases hdd:o.dst with
  |none=>
   unfold kA at ht;rw[hdd] at ht;exact old ht
  |some d=>
   unfold kA at ht;rw[hdd] at ht;simp only at ht;rw[aC] at ht
   by_cases hq:d=t
   ·subst hq
    rw[if_pos rfl] at ht;cases ht
    exact⟨v,by simp[Act.put,hs.size,hd d hdd],hok,hlive⟩
   ·rw[if_neg hq] at ht
    obtain⟨u,hu,hr⟩:=old ht;exact⟨u,by rw[eZN (fun d' h'=>by cases h';exact hq)];exact hu,hr⟩
abbrev It:=Nat×Oper×Eff
section
variable(P:Program)(En:Ev)(n:Nat)(ops:Array Oper)
def CR:List It→St→Prop
 |[],_=>True
 |(_,o,e)::R,σ=>LT P En n ops o σ.sl σ.bx e∧CR R (kA σ o e)
end
def fin:List It→St→St
 |[],σ=>σ
 |(_,o,e)::R,σ=>fin R (kA σ o e)
structure SAlike(σ τ:St):Prop where
 sl:wB σ.sl τ.sl
 bx:wB σ.bx τ.bx
theorem SAlike.upd{σ τ:St}(h:SAlike σ τ)(o:Oper)(e:Eff):SAlike (kA σ o e) (kA τ o e):=by
 refine⟨fun t=>?_,fun b=>?_⟩
 ·unfold kA
  cases o.dst with
  |none=>exact h.sl t
  |some d=>simp only;rw[aC,aC,h.sl t]
 ·show aB (e.wb++σ.bx) b=aB (e.wb++τ.bx) b
  rw[cQ,cQ,h.bx b]
theorem uK:∀(R:List It) {σ τ:St},SAlike σ τ→SAlike (fin R σ) (fin R τ)
 |[],_,_,h=>h
 |(_,o,e)::R,_,_,h=>uK R (h.upd o e)
section
variable{P:Program}{En:Ev}{n:Nat}{ops:Array Oper}
theorem LT.congr{o:Oper}{e:Eff}{sl sl1:Sl}{bx bx1:Bx}(h:LT P En n ops o sl bx e)(h1:∀t∈o.looksAt ops,aB sl1 t=aB sl t)(h2:∀b∈e.rb,aB bx1 b=aB bx b)(h3:∀b∈e.wb.map (·.1),aB bx1 b=aB bx b):
  LT P En n ops o sl1 bx1 e:=fun sl' bx' g1 g2 g3=>
 h sl' bx' (fun t ht=>(g1 t ht).trans (h1 t ht)) (fun b hb=>(g2 b hb).trans (h2 b hb)) (fun b hb=>(g3 b hb).trans (h3 b hb))
theorem dZQ:∀(R:List It) {σ τ:St},SAlike σ τ→CR P En n ops R σ→CR P En n ops R τ
 |[],_,_,_,_=>trivial
 |(_,o,e)::R,_,_,h,⟨a,b⟩=>⟨a.congr (fun t _=>(h.sl t).symm) (fun t _=>(h.bx t).symm) (fun t _=>(h.bx t).symm),dZQ R (h.upd o e) b⟩
def sM(ops:Array Oper)(x y:Oper×Eff):Bool:=
 x.1.apart ops y.1&&(x.2.wb.map (·.1)).all (fun b=> !y.2.rb.contains b&& !(y.2.wb.map (·.1)).contains b)&&x.2.rb.all (fun b=> !(y.2.wb.map (·.1)).contains b)
theorem fZe{x y:Oper×Eff}(h:sM ops x y=true):
  ((∀d,x.1.dst=some d→d∉y.1.looksAt ops)∧(∀d,x.1.dst=some d→y.1.dst≠some d)∧(∀d,y.1.dst=some d→d∉x.1.looksAt ops))∧
  (∀b∈x.2.wb.map (·.1),b∉y.2.rb∧b∉y.2.wb.map (·.1))∧(∀b∈x.2.rb,b∉y.2.wb.map (·.1)):=by
 unfold sM at h;rw[Bool.and_eq_true,Bool.and_eq_true] at h;obtain⟨⟨h1,h2⟩,h3⟩:=h;refine⟨Oper.apart_spec h1,fun b hb=>?_,fun b hb=>?_⟩
 ·have:=List.all_eq_true.1 h2 b hb
  simp only[Bool.and_eq_true,Bool.not_eq_true',List.contains_eq_mem,decide_eq_false_iff_not] at this;exact this
 ·have:=List.all_eq_true.1 h3 b hb
  simpa using this
theorem fZt{i:Nat}{o:Oper}{e:Eff}{B:List It}:∀(A:List It) (σ:St),(∀y∈A,sM ops y.2 (o,e)=true)→CR P En n ops (A++(i,o,e)::B) σ→
  LT P En n ops o σ.sl σ.bx e∧CR P En n ops (A++B) (kA σ o e)∧SAlike (fin (A++(i,o,e)::B) σ) (fin (A++B) (kA σ o e))
 |[],σ,_,h=>⟨h.1,h.2,⟨fun _=>rfl,fun _=>rfl⟩⟩
 |(j,o',e')::A,σ,hA,⟨h1,h2⟩=>by
  obtain⟨g1,g2,g3⟩:=fZt A (kA σ o' e') (fun y hy=>hA y (List.mem_cons_of_mem _ hy)) h2;obtain⟨⟨a1,a2,a3⟩,a4,a5⟩:=fZe (hA _ (List.mem_cons_self ..));simp only at a1 a2 a3 a4 a5;have hx:LT P En n ops o σ.sl σ.bx e:=g1.congr
   (fun t ht=>(fZ1 σ o' e' t (fun d hd hdt=>a1 d hd (hdt▸ht))).symm)
   (fun b hb=>(wL σ o' e' b (fun hb'=>(a4 b hb').1 hb)).symm)
   (fun b hb=>(wL σ o' e' b (fun hb'=>(a4 b hb').2 hb)).symm)
  have hy:LT P En n ops o' (kA σ o e).sl (kA σ o e).bx e':=h1.congr
   (fun t ht=>fZ1 σ o e t (fun d hd hdt=>a3 d hd (hdt▸ht)))
   (fun b hb=>wL σ o e b (fun hb'=>a5 b hb hb'))
   (fun b hb=>wL σ o e b (fun hb'=>(a4 b hb).2 hb'))
  have hsw:SAlike (kA (kA σ o' e') o e) (kA (kA σ o e) o' e'):=by
   refine⟨fun t=>?_,fun b=>?_⟩
   ·unfold kA
    cases hd:o.dst with
    |none=>cases hd':o'.dst<;>rfl
    |some d=>
     cases hd':o'.dst with
     |none=>rfl
     |some d'=>
      simp only;have hne:d'≠d:=fun he=>a2 d' hd' (he▸hd);rw[aC,aC,aC,aC]
      by_cases q1:d=t
      ·subst q1;rw[if_pos rfl,if_neg hne,if_pos rfl]
      ·rw[if_neg q1,if_neg q1]
   ·show aB (e.wb++(e'.wb++σ.bx)) b=aB (e'.wb++(e.wb++σ.bx)) b
    rw[cQ,cQ,cQ,cQ]
    by_cases q:b∈e'.wb.map (·.1)
    ·rw[nF (a4 b q).2];simp
    ·rw[nF q];simp
  exact⟨hx,⟨hy,dZQ _ hsw g2⟩,⟨fun t=>(g3.sl t).trans ((uK (A++B) hsw).sl t),fun t=>(g3.bx t).trans ((uK (A++B) hsw).bx t)⟩⟩
end
def kX(o:Oper):List Nat:=(o.after.toList.filter (fun e=>Region.binds .any e)).map (·.on)
def bZU(D:List Nat)(l:List Nat):Nat:=l.foldl (fun m k=>m|||(1<<<k)|||D.getD k 0) 0
theorem oB(D:List Nat)(i:Nat):∀(l:List Nat) (m:Nat),(l.foldl (fun m k=>m|||(1<<<k)|||D.getD k 0) m).testBit i=true→m.testBit i=true∨∃k∈l,i=k∨(D.getD k 0).testBit i=true
 |[],m,h=> .inl h
 |k::l,m,h=>by
  rcases oB D i l _ h with h|⟨k',hk',h⟩
  ·rw[Nat.testBit_or,Nat.testBit_or,Bool.or_eq_true,Bool.or_eq_true] at h
   rcases h with(h|h)|h
   ·exact .inl h
   ·rw[Nat.one_shiftLeft,Nat.testBit_two_pow] at h
    have hki:k=i:=by simpa using h
    exact .inr ⟨k,by simp,.inl hki.symm⟩
   ·exact .inr ⟨k,by simp,.inr h⟩
  ·exact .inr ⟨k',by simp[hk'],h⟩
def nD:List Oper→List Nat→List Nat
 |[],D=>D
 |o::os,D=>nD os (D++[bZU D (kX o)])
def gF:List Oper→List Eff→Nat→List It
 |o::os,e::es,i=>(i,o,e)::gF os es (i+1)
 |_,_,_=>[]
def kJ(n:Nat)(D:List Nat)(x:It):Bool:=
 (match x.2.1.dst with|some d=>Nat.blt d n|none=>true)&&(kX x.2.1).all (fun k=>Nat.blt k x.1)&&Nat.beq (D.getD x.1 0) (bZU D (kX x.2.1))
def sE(ops:Array Oper)(D:List Nat):List It→Bool
 |[]=>true
 |x::R=>R.all (fun y=>(D.getD y.1 0).testBit x.1||sM ops x.2 y.2)&&sE ops D R
def jI(n:Nat)(ops:List Oper)(es:List Eff):Bool:=
 Nat.beq ops.length es.length&&(gF ops es 0).all (kJ n (nD ops []))&&sE ops.toArray (nD ops []) (gF ops es 0)
theorem pW{ops:List Oper}{es:List Eff}{k:Nat}{x:It}(h:x∈gF ops es k):k≤x.1∧ops[x.1-k]? =some x.2.1:=by
 induction ops generalizing es k with
 |nil=>simp[gF] at h
 |cons o os ih=>
  cases es with
  |nil=>simp[gF] at h
  |cons e es=>
   rcases List.mem_cons.1 h with rfl|h
   ·simp
   ·obtain⟨a,b⟩:=ih h
    refine⟨oM,?_⟩;rw[show x.1-k=(x.1-(k+1))+1 by omega]
    simpa using b
theorem aZR{ops:List Oper}{es:List Eff}{k:Nat}(hl:ops.length=es.length){i:Nat}(hi:i<ops.length):∃o e,(k+i,o,e)∈gF ops es k:=by
 induction ops generalizing es k i with
 |nil=>simp at hi
 |cons o os ih=>
  cases es with
  |nil=>simp at hl
  |cons e es=>
   cases i with
   |zero=>exact⟨o,e,by simp[gF]⟩
   |succ i=>
    obtain⟨o',e',h⟩:=ih (k:=k+1) (by simpa using hl) (i:=i) (by simpa using hi)
    exact⟨o',e',by rw[show k+(i+1)=k+1+i by omega];exact List.mem_cons_of_mem _ h⟩
theorem oC:∀(ops:List Oper) (es:List Eff) (k:Nat),(gF ops es k).Pairwise (fun x y=>x.1<y.1)
 |[],_,_=>by simp[gF]
 |_::_,[],_=>by simp[gF]
 |o::os,e::es,k=>by
  refine List.Pairwise.cons (fun y hy=>?_) (oC os es (k+1));have:=(pW hy).1;simp only;omega
theorem nY{ops:Array Oper}{D:List Nat}:∀{R:List It},sE ops D R=true→R.Pairwise (fun x y=>(D.getD y.1 0).testBit x.1=true∨sM ops x.2 y.2=true)
 |[],_=> .nil
 |x::R,h=>by
  simp only[sE,Bool.and_eq_true] at h;refine .cons (fun y hy=>?_) (nY h.2);have:=List.all_eq_true.1 h.1 y hy;simpa using this
section
variable{P:Program}{En:Ev}{n:Nat}{ops:Array Oper}{Q:Exit→Act→World→Prop}{w0:World}{h0:GH}{c:Cx}{D:List Nat}
theorem pZJ:∀(fuel:Nat) (listed:Array Bool) (R:List It) (σ:St) (a:Act) (w:World),R.length≤fuel→listed.size=ops.size→
  (∀x∈R,ops[x.1]? =some x.2.1∧listed.getD x.1 true=false∧kJ n D x=true)→
  (∀i,i<ops.size→listed.getD i true=false→∃o e,(i,o,e)∈R)→
  R.Pairwise (fun x y=>x.1<y.1)→R.Pairwise (fun x y=>(D.getD y.1 0).testBit x.1=true∨sM ops x.2 y.2=true)→
  (∀j,listed.getD j false=true→∀i,(D.getD j 0).testBit i=true→listed.getD i false=true)→
  CR P En n ops R σ→Gam En n w0 h0 c σ a w→(∀a w,Gam En n w0 h0 c (fin R σ) a w→Q .normal a w)→wpAny P .any ops Q fuel listed a w:=by
 intro fuel;have hgd:∀(l:Array Bool) i,l.getD i true=false→i<l.size∧l.getD i false=false:=fun l i h=>by
  rcases Nat.lt_or_ge i l.size with hlt|hge
  ·exact⟨hlt,by simp[hlt] at h ⊢;exact h⟩
  ·simp[Array.getElem?_eq_none hge] at h
 have hend:∀(listed:Array Bool) (R:List It),listed.size=ops.size→(∀x∈R,ops[x.1]? =some x.2.1∧listed.getD x.1 true=false∧kJ n D x=true)→
   (∀i,i<ops.size→listed.getD i true=false→∃o e,(i,o,e)∈R)→R.Pairwise (fun x y=>x.1<y.1)→Region.ready .any ops listed=[]→R=[]:=by
  intro listed R hsz hR hall hsort hr;cases R with
  |nil=>rfl
  |cons x R=>
   exfalso
   obtain⟨h1,h2,h3⟩:=hR x (List.mem_cons_self ..);have:x.1∈Region.ready .any ops listed:=by
    refine mem_ready.2 ⟨h2,x.2.1,h1,fun e he hb=>?_⟩;simp only[kJ,Bool.and_eq_true] at h3;have hk:=List.all_eq_true.1 h3.1.2 e.on (by
     unfold kX;refine List.mem_map.2 ⟨e,List.mem_filter.2 ⟨by simpa using he,hb⟩,rfl⟩)
    have hk:e.on<x.1:=by have:=Nat.le_of_ble_eq_true hk;omega
    have hx:=(hgd _ _ h2).1;cases hl:listed.getD e.on true with
    |true=>
     have:e.on<listed.size:=oM;simp[this] at hl ⊢
     exact hl
    |false=>
     obtain⟨o',e',hm⟩:=hall e.on oM hl;rcases List.mem_cons.1 hm with h|h
     ·have:=congrArg Prod.fst h;simp only at this;omega
     ·have:=List.rel_of_pairwise_cons hsort h;simp only at this;omega
   rw[hr] at this;cases this
 induction fuel with
 |zero=>
  intro listed R σ a w hf hsz hR hall hsort hpair hclosed hcr hg hQ;have:R=[]:=List.length_eq_zero_iff.1 oM;subst this;refine⟨?_,hQ a w hg⟩;cases hr:Region.ready .any ops listed with
  |nil=>rfl
  |cons i l=>
   have:i∈Region.ready .any ops listed:=by rw[hr];simp
   obtain⟨h1,o,h2,_⟩:=mem_ready.1 this;obtain⟨_,_,hm⟩:=hall i (Array.getElem?_eq_some_iff.1 h2).1 h1;cases hm
 |succ fuel ih=>
  intro listed R σ a w hf hsz hR hall hsort hpair hclosed hcr hg hQ;refine⟨fun hr=>?_,fun i hi=>?_⟩
  ·have:=hend listed R hsz hR hall hsort hr
   subst this;exact hQ a w hg
  ·obtain⟨h1,o,h2,h3⟩:=mem_ready.1 hi
   obtain⟨o',e,hm⟩:=hall i (Array.getElem?_eq_some_iff.1 h2).1 h1;obtain⟨A,B,rfl⟩:=List.append_of_mem hm;obtain⟨k1,_,k3⟩:=hR _ hm;simp only at k1;rw[h2] at k1;cases k1
   simp only[kJ,Bool.and_eq_true] at k3;obtain⟨⟨kd,kb⟩,km⟩:=k3;have hdeps:∀j,(D.getD i 0).testBit j=true→listed.getD j false=true:=fun j hj=>by
    rw[Nat.eq_of_beq_eq_true km] at hj;rcases oB D j _ 0 hj with h|⟨k,hk,h⟩
    ·simp at h
    ·obtain⟨ed,hed,rfl⟩:=List.mem_map.1 hk
     obtain⟨he1,he2⟩:=List.mem_filter.1 hed;have hl:=h3 ed (by simpa using he1) he2
     rcases h with rfl|h
     ·exact hl
     ·exact hclosed _ hl j h
   have hA:∀y∈A,sM ops y.2 (o,e)=true:=fun y hy=>by
    have hy':y∈A++(i,o,e)::B:=List.mem_append_left _ hy;rcases(List.pairwise_append.1 hpair).2.2 y hy (i,o,e) (List.mem_cons_self ..) with h|h
    ·have q1:=hdeps _ h
     have q2:=(hgd _ _ (hR y hy').2.1).2;rw[q1] at q2;cases q2
    ·exact h
   obtain⟨g1,g2,g3⟩:=fZt A σ hA hcr;obtain⟨h,β,hinv,hslots⟩:=hg;have key:=g1 σ.sl σ.bx (fun _ _=>rfl) (fun _ _=>rfl) (fun _ _=>rfl) w0 h0 c h β a w Q hinv hslots
    (wpAny P .any ops Q fuel (listed.setIfInBounds i true)) (fun a' w' hh=>by
     obtain⟨v,h',β',rfl,q1,q2,q3,q4,q5⟩:=hh;have hG:Gam En n w0 h0 c (kA σ o e) (a.put o.dst v) w':=sO (fun d hd=>by rw[hd] at kd;exact Nat.le_of_ble_eq_true (show Nat.ble (d+1) n=true from kd)) hslots q1 q2 q3 q4 q5
     have hilt:=(Array.getElem?_eq_some_iff.1 h2).1;have hset:∀j d,j≠i→(listed.setIfInBounds i true).getD j d=listed.getD j d:=fun j d hj=>by
      simp[Array.getElem?_setIfInBounds_ne (Ne.symm hj)]
     have hset':∀d,(listed.setIfInBounds i true).getD i d=true:=fun d=>by simp[hsz,hilt]
     have hsortAB:=hsort;have hne:∀x∈A++B,x.1≠i:=fun x hx=>by
      rcases List.mem_append.1 hx with hx|hx
      ·have:=(List.pairwise_append.1 hsort).2.2 x hx (i,o,e) (List.mem_cons_self ..);simp only at this;omega
      ·have:=List.rel_of_pairwise_cons (List.pairwise_append.1 hsort).2.1 hx;simp only at this;omega
     have hsub:(A++B).Sublist (A++(i,o,e)::B):=List.Sublist.append_left (List.sublist_cons_self _ _) _;refine ih _ (A++B) (kA σ o e) _ _ (by simp at hf ⊢;omega) (by simpa using hsz) (fun x hx=>?_) (fun j hj hl=>?_) (hsort.sublist hsub) (hpair.sublist hsub) (fun j hj k hk=>?_) g2 hG (fun a w hG=>hQ a w ?_)
     ·obtain⟨r1,r2,r3⟩:=hR x (hsub.subset hx)
      exact⟨r1,by rw[hset _ _ (hne x hx)];exact r2,r3⟩
     ·have hji:j≠i:=by rintro rfl;rw[hset'] at hl;cases hl
      rw[hset _ _ hji] at hl;obtain⟨o',e',hm'⟩:=hall j hj hl;refine⟨o',e',?_⟩;rcases List.mem_append.1 hm' with hm'|hm'
      ·exact List.mem_append_left _ hm'
      ·rcases List.mem_cons.1 hm' with hm'|hm'
       ·exact absurd (congrArg Prod.fst hm') hji
       ·exact List.mem_append_right _ hm'
     ·by_cases hki:k=i
      ·subst hki;exact hset' _
      ·rw[hset _ _ hki]
       by_cases hji:j=i
       ·subst hji;exact hdeps k hk
       ·rw[hset _ _ hji] at hj;exact hclosed j hj k hk
     ·exact hG.alike (fun t=>(g3.sl t).symm) (fun t=>(g3.bx t).symm))
   unfold wpOp;rw[h2];exact key
theorem iZQ:∀(R:List It) (σ:St) (a:Act) (w:World),(∀x∈R,ops[x.1]? =some x.2.1∧kJ n D x=true)→
  CR P En n ops R σ→Gam En n w0 h0 c σ a w→(∀a w,Gam En n w0 h0 c (fin R σ) a w→Q .normal a w)→wpOps P ops Q (R.map (·.1)) a w
 |[],_,a,w,_,_,hg,hQ=>hQ a w hg
 |(i,o,e)::R,σ,a,w,hR,⟨h1,h2⟩,hg,hQ=>by
  obtain⟨k1,k3⟩:=hR _ (List.mem_cons_self ..);simp only at k1;simp only[kJ,Bool.and_eq_true] at k3;obtain⟨⟨kd,_⟩,_⟩:=k3;obtain⟨h,β,hinv,hslots⟩:=hg;show wpOps P ops Q (i::R.map (·.1)) a w
  rw[wpOps_cons];unfold wpOp;rw[k1];refine h1 σ.sl σ.bx (fun _ _=>rfl) (fun _ _=>rfl) (fun _ _=>rfl) w0 h0 c h β a w Q hinv hslots _ (fun a' w' hh=>?_);obtain⟨v,h',β',rfl,q1,q2,q3,q4,q5⟩:=hh;exact iZQ R _ _ _ (fun x hx=>hR x (List.mem_cons_of_mem _ hx)) h2 (sO (fun d hd=>by rw[hd] at kd;exact Nat.le_of_ble_eq_true (show Nat.ble (d+1) n=true from kd)) hslots q1 q2 q3 q4 q5) hQ
end
inductive Chain (P:Program) (En:Ev) (n:Nat) (ops:Array Oper):List Oper→St→List Eff→St→Prop
 |nil (σ:St):Chain P En n ops [] σ [] σ
 |cons {o:Oper} {os:List Oper} {σ:St} {e:Eff} {es:List Eff} {τ:St} (h:LT P En n ops o σ.sl σ.bx e) (t:Chain P En n ops os (kA σ o e) es τ):Chain P En n ops (o::os) σ (e::es) τ
theorem dZX{P:Program}{En:Ev}{n:Nat}{ops:Array Oper}{os:List Oper}{σ:St}{es:List Eff}{τ:St}(h:Chain P En n ops os σ es τ):∀k,CR P En n ops (gF os es k) σ∧fin (gF os es k) σ=τ:=by
 induction h with
 |nil σ=>intro k;exact⟨trivial,rfl⟩
 |cons h t ih=>intro k;exact⟨⟨h,(ih (k+1)).1⟩,(ih (k+1)).2⟩
def WpD(P:Program)(En:Ev)(n:Nat)(w0:World)(h0:GH)(c:Cx)(co:Code)(K:Exit→St→Prop)(σ:St):Prop:=
 ∀(Q:Exit→Act→World→Prop) (a:Act) (w:World),Gam En n w0 h0 c σ a w→(∀e τ a' w',K e τ→Gam En n w0 h0 c τ a' w'→Q e a' w')→co.wp P Q a w
def aZm(N:St→Prop)(K:Exit→St→Prop):Exit→St→Prop
 | .normal,σ=>N σ
 | .exit i,σ=>K (.exit i) σ
 | .goto i,σ=>K (.goto i) σ
 | .ret,σ=>K .ret σ
 | .panic c,σ=>K (.panic c) σ
 | .outgrown,σ=>K .outgrown σ
def fZb(id:Nat)(K:Exit→St→Prop):Exit→St→Prop
 | .normal,σ=>K .normal σ
 | .exit i,σ=>cond (Nat.beq i id) (K .normal σ) (K (.exit i) σ)
 | .goto i,σ=>K (.goto i) σ
 | .ret,σ=>K .ret σ
 | .panic c,σ=>K (.panic c) σ
 | .outgrown,σ=>K .outgrown σ
section
variable{P:Program}{En:Ev}{n:Nat}{w0:World}{h0:GH}{c:Cx}{K:Exit→St→Prop}{σ:St}
theorem mF:∀(ops:List Oper) (es:List Eff) (k:Nat),ops.length=es.length→(gF ops es k).map (·.1)=List.range' k ops.length
 |[],[],k,_=>rfl
 |[],_::_,_,h=>by simp at h
 |_::_,[],_,h=>by simp at h
 |o::os,e::es,k,h=>by
  show k::(gF os es (k+1)).map (·.1)=_
  rw[mF os es (k+1) (by simpa using h),List.length_cons,List.range'_succ]
theorem WpD.region{id:Nat}{draw:Bool}{l:List Oper}{es:List Eff}{τ:St}(hm:P.follows .mixedOrders=true)(hc:Chain P En n l.toArray l σ es τ)(hok:jI n l es=true)(hk:K .normal τ):
  WpD P En n w0 h0 c (.region id l.toArray draw) K σ:=by
 intro Q a w hg hQ;unfold jI at hok;rw[Bool.and_eq_true,Bool.and_eq_true] at hok;obtain⟨⟨hl,hi⟩,hp⟩:=hok;have hl:=Nat.eq_of_beq_eq_true hl;obtain⟨hcr,hfin⟩:=dZX hc 0;have hget:∀x∈gF l es 0,l.toArray[x.1]? =some x.2.1∧kJ n (nD l []) x=true:=fun x hx=>⟨by have:=(pW hx).2;simpa using this,List.all_eq_true.1 hi x hx⟩
 have hend:∀a w,Gam En n w0 h0 c (fin (gF l es 0) σ) a w→Q .normal a w:=fun a w h=>hQ .normal τ a w hk (by rw[←hfin];exact h)
 cases draw with
 |false=>
  refine wp_region ?_;have:=iZQ (P:=P) (ops:=l.toArray) (Q:=Q) (D:=nD l []) (gF l es 0) σ a w hget hcr hg hend;rwa[mF _ _ _ hl,←List.range_eq_range'] at this
 |true=>
  refine wp_region_any hm ?_;refine pZJ (D:=nD l []) l.toArray.size _ (gF l es 0) σ a _ ?_ (by simp) (fun x hx=>?_) (fun i hi' _=>?_) (oC _ _ _) (nY hp) (fun j hj i hi=>?_) hcr ?_ hend
  ·have:=congrArg List.length (mF l es 0 hl)
   simp at this ⊢;omega
  ·obtain⟨q1,q2⟩:=hget x hx
   have hlt:=(Array.getElem?_eq_some_iff.1 q1).1;exact⟨q1,by simp at hlt ⊢;simp[hlt],q2⟩
  ·have:=aZR (k:=0) hl (i:=i) (by simpa using hi')
   simpa using this
  ·exfalso
   rw[Array.getD_eq_getD_getElem?] at hj;rcases Nat.lt_or_ge j l.length with h|h
   ·simp[h] at hj
   ·simp[Nat.not_lt.2 h] at hj
  ·obtain⟨h,β,hi,hs⟩:=hg
   exact⟨h,β,hi.drew,hs⟩
theorem WpD.seq{x y:Code}(h:WpD P En n w0 h0 c x (aZm (WpD P En n w0 h0 c y K) K) σ):WpD P En n w0 h0 c (.seq x y) K σ:=by
 intro Q a w hg hQ;refine wp_seq (h _ a w hg fun e τ a' w' hk hg'=>?_);cases e with
 |normal=>exact hk Q a' w' hg' hQ
 |exit i=>exact hQ _ τ a' w' hk hg'
 |goto i=>exact hQ _ τ a' w' hk hg'
 |ret=>exact hQ _ τ a' w' hk hg'
 |panic i=>exact hQ _ τ a' w' hk hg'
 |outgrown=>exact hQ _ τ a' w' hk hg'
theorem WpD.block{id:Nat}{co:Code}(h:WpD P En n w0 h0 c co (fZb id K) σ):WpD P En n w0 h0 c (.block id co) K σ:=by
 intro Q a w hg hQ;refine wp_block (h _ a w hg fun e τ a' w' hk hg'=>?_);cases e with
 |normal=>exact hQ _ τ a' w' hk hg'
 |exit i=>
  show if i=id then Q .normal a' w' else Q (.exit i) a' w'
  have hk:cond (Nat.beq i id) (K .normal τ) (K (.exit i) τ):=hk
  by_cases e:i=id
  ·subst e
   rw[if_pos rfl];rw[show Nat.beq i i=true by simp] at hk
   exact hQ _ τ a' w' hk hg'
  ·rw[if_neg e]
   have:Nat.beq i id=false:=by cases hh:Nat.beq i id;rfl;exact absurd (Nat.eq_of_beq_eq_true hh) e
   rw[this] at hk;exact hQ _ τ a' w' hk hg'
 |goto i=>exact hQ _ τ a' w' hk hg'
 |ret=>exact hQ _ τ a' w' hk hg'
 |panic i=>exact hQ _ τ a' w' hk hg'
 |outgrown=>exact hQ _ τ a' w' hk hg'
theorem WpD.skip(h:K .normal σ):WpD P En n w0 h0 c .skip K σ:=fun _ a w hg hQ=>wp_skip (hQ _ σ a w h hg)
theorem WpD.exit{id:Nat}(h:K (.exit id) σ):WpD P En n w0 h0 c (.exit id) K σ:=fun _ a w hg hQ=>wp_exit (hQ _ σ a w h hg)
theorem WpD.ret(h:K .ret σ):WpD P En n w0 h0 c .ret K σ:=fun _ a w hg hQ=>wp_ret (hQ _ σ a w h hg)
def osd(sl:Sl):Operand→Option SD
 | .tmp t=>aB sl t
 | .const v=>some (.one (ex v))
 | .func f=>some (.one (ex (.func (.func f) #[] #[])))
 | .global g=>some (.one (ex (.pointer (some ⟨g,0,none⟩))))
theorem cH{h:GH}{β:Nat→Nat}{sl:Sl}{bx:Bx}{a:Act}(hs:Slots n h β sl bx a){x:Operand}{sd:SD}(hx:osd sl x=some sd):sd.ok h β (a.eval x)∧sd.live bx:=by
 cases x with
 |tmp t=>
  obtain⟨v,hv,ho,hl⟩:=hs.slot t sd hx;have:a.eval (.tmp t)=v:=by simp[Act.eval,hv]
  rw[this];exact⟨ho,hl⟩
 |const v=>cases hx;exact⟨rfl,trivial⟩
 |func f=>cases hx;exact⟨rfl,trivial⟩
 |global g=>cases hx;exact⟨rfl,trivial⟩
theorem WpD.cond{cc:Operand}{x y:Code}{b:Bool}(hc:osd σ.sl cc=some (.one (ex (.bool b))))(h1:b=true→WpD P En n w0 h0 c x K σ)(h2:b=false→WpD P En n w0 h0 c y K σ):WpD P En n w0 h0 c (.cond cc x y) K σ:=by
 intro Q a w hg hQ;obtain⟨h,β,hi,hs⟩:=hg;have he:a.eval cc= .bool b:=(cH hs hc).1;exact wp_cond_split he (fun e=>h1 e Q a w ⟨h,β,hi,hs⟩ hQ) (fun e=>h2 e Q a w ⟨h,β,hi,hs⟩ hQ)
def Sub(σ τ:St):Prop:=∀En n w0 h0 c a w,Gam En n w0 h0 c σ a w→Gam En n w0 h0 c τ a w
theorem WpD.sub{co:Code}{τ:St}(hs:Sub σ τ)(h:WpD P En n w0 h0 c co K τ):WpD P En n w0 h0 c co K σ:=fun Q a w hg hQ=>h Q a w (hs _ _ _ _ _ _ _ hg) hQ
theorem WpD.loop{α:Type}{co:Code}(I:α→St)(μ:α→Nat)(x0:α)(hs:Sub σ (I x0))(hr:∀x,WpD P En n w0 h0 c co (aZm (fun τ=>∃y,Sub τ (I y)∧μ y<μ x) K) (I x)):WpD P En n w0 h0 c (.loop co) K σ:=by
 intro Q a w hg hQ;refine wp_loop_ghost (fun g a w=>∃x,μ x=g∧Gam En n w0 h0 c (I x) a w) (μ x0) ⟨x0,rfl,hs _ _ _ _ _ _ _ hg⟩ ?_;rintro g a w ⟨x,rfl,hx⟩;refine hr x _ a w hx fun e τ a' w' hk hg'=>?_;cases e with
 |normal=>
  obtain⟨y,hy,hlt⟩:=hk;exact⟨μ y,hlt,y,rfl,hy _ _ _ _ _ _ _ hg'⟩
 |exit i=>exact hQ _ τ a' w' hk hg'
 |goto i=>exact hQ _ τ a' w' hk hg'
 |ret=>exact hQ _ τ a' w' hk hg'
 |panic i=>exact hQ _ τ a' w' hk hg'
 |outgrown=>exact hQ _ τ a' w' hk hg'
end
def SLe:SD→SD→Prop
 | .one p,.one q=>PLe p q
 | .one p,.app _ _ len=>len=0∧PLe p (ex (.slice none 0 0))
 |s,t=>s=t
theorem SLe.ok{s t:SD}(hs:SLe s t){h:GH}{β:Nat→Nat}{v:Value}(ho:s.ok h β v):t.ok h β v:=by
 cases s<;>cases t<;>first|exact hs _ _ ho|exact .inl ⟨hs.2 _ _ ho,hs.1⟩|(unfold SLe at hs;first|(rw[←hs];exact ho)|(cases hs;exact ho)|cases hs)
def PsLe:List Pd→List Pd→Prop
 |_,[]=>True
 |p::ps,q::qs=>PLe p q∧PsLe ps qs
 |[],_::_=>False
theorem PsLe.refl:∀ps,PsLe ps ps
 |[]=>trivial
 |p::ps=>⟨PLe.refl p,PsLe.refl ps⟩
theorem PsLe.nil:∀{qs},PsLe [] qs→qs=[]
 |[],_=>rfl
 |_::_,h=>h.elim
theorem PsLe.all{h:GH}:∀{ps qs:List Pd} {vs:List Value},PsLe ps qs→All2 h ps vs→∃v1 v2,vs=v1++v2∧All2 h qs v1
 |_,[],vs,_,_=>⟨[],vs,rfl,trivial⟩
 |_::_,_::_,v::_,⟨a,b⟩,⟨x,y,z⟩=>by
  obtain⟨v1,v2,e,hv⟩:=PsLe.all b z;exact⟨v::v1,v2,by rw[e];rfl,a _ _ x,y,hv⟩
 |_::_,_::_,[],_,h=>h.elim
 |[],_::_,_,h,_=>h.elim
def mS(s:Sl)(bx:Bx):Sl→Prop
 |[]=>True
 |(t,sd)::l=>(∃sd',aB s t=some sd'∧SLe sd' sd)∧sd.live bx∧mS s bx l
def subBx(s:Bx):Bx→Prop
 |[]=>True
 |(t,ps)::l=>((∃ps',aB s t=some ps'∧PsLe ps' ps)∨ps=[])∧subBx s l
theorem pP{s:Sl}{bx:Bx}:∀{l:Sl},mS s bx l→∀{t:Nat} {sd:SD},aB l t=some sd→(∃sd',aB s t=some sd'∧SLe sd' sd)∧sd.live bx
 |[],_,_,_,h=>by cases h
 |(k,x)::l,⟨h1,h2,h3⟩,t,sd,h=>by
  rw[aC] at h;split at h
  ·rename_i e;subst e;cases h;exact⟨h1,h2⟩
  ·exact pP h3 h
theorem lP{s:Bx}:∀{l:Bx},subBx s l→∀{t:Nat} {ps:List Pd},aB l t=some ps→(∃ps',aB s t=some ps'∧PsLe ps' ps)∨ps=[]
 |[],_,_,_,h=>by cases h
 |(k,x)::l,⟨h1,h3⟩,t,sd,h=>by
  rw[aC] at h;split at h
  ·rename_i e;subst e;cases h;exact h1
  ·exact lP h3 h
def nZ8(s t:Bx):Bool:=t.all (fun x=> !(lk x.1))||s.all (fun x=>t.any (fun y=>Nat.beq x.1 y.1))
def bZL(bx:Bx)(p:Pd):Prop:=∀h v r o l c,p.p h v→v= .slice (some ⟨r,o,none⟩) l c→aB bx r≠none∧(grows r→aB bx (r+250)≠none)
def LKeep(s t:Bx):Prop:=∀i ps,lk i=true→aB t i=some ps→(∀r,aB s r≠none→aB t r≠none)∨∀p∈ps,bZL t p
theorem jK{s t:Bx}(h:nZ8 s t=true):LKeep s t:=by
 intro i ps hl hp;unfold nZ8 at h;rw[Bool.or_eq_true] at h;rcases h with h|h
 ·have:=List.all_eq_true.1 h _ (kS hp)
  simp only[hl] at this;cases this
 ·refine .inl fun i hi=>?_
  cases hs:aB s i with
  |none=>exact absurd hs hi
  |some ps=>
   have:=List.all_eq_true.1 h _ (kS hs);obtain⟨y,hy,he⟩:=List.any_eq_true.1 this;have he:i=y.1:=Nat.eq_of_beq_eq_true he;intro hn;have:y.1∈t.map (·.1):=List.mem_map.2 ⟨y,hy,rfl⟩;rw[←he] at this;exact aZk hn this
theorem All2.mem{h:GH}:∀{ps:List Pd} {vs:List Value},All2 h ps vs→∀v∈vs,∃p∈ps,p.p h v
 |[],[],_,v,hv=>by cases hv
 |p::_,u::_,⟨a,_,c⟩,v,hv=>by
  rcases List.mem_cons.1 hv with rfl|hv
  ·exact⟨p,List.mem_cons_self ..,a⟩
  ·obtain⟨q,h1,h2⟩:=All2.mem c v hv
   exact⟨q,List.mem_cons_of_mem _ h1,h2⟩
 |[],_::_,h,_,_=>h.elim
 |_::_,[],h,_,_=>h.elim
theorem LKeep.refs{s t:Bx}(hk:LKeep s t){i:Nat}{ps:List Pd}(hp:aB t i=some ps){h:GH}{β:Nat→Nat}{vs us:List Value}(ha:All2 h ps vs)(hs:∀v∈vs,v∈us)(hr:pB i β s us):pB i β t vs:=by
 intro hl v hv;rcases hk i ps hl hp with k|k
 ·exact(kM (hr hl v (hs v hv)) fun i hi=>⟨k i hi,rfl⟩).1
 ·intro r o l c e
  obtain⟨p,hp,hpv⟩:=ha.mem v hv;obtain⟨k1,k2⟩:=k p hp h v r o l c hpv e;obtain⟨g1,g2⟩:=hr hl v (hs v hv) r o l c e;exact⟨k1,fun hg=>⟨k2 hg,(g2 hg).2⟩⟩
theorem Sub.mk{σ τ:St}(h1:mS σ.sl τ.bx τ.sl)(h2:subBx σ.bx τ.bx)(h3:LKeep σ.bx τ.bx:=by exact jK rfl):Sub σ τ:=by
 rintro En n w0 h0 c a w ⟨h,β,hi,hs⟩;have hne:∀i ps,aB τ.bx i=some ps→ps≠[]→∃ps',aB σ.bx i=some ps'∧ps'≠[]∧PsLe ps' ps:=fun i ps hp hps=>by
  rcases lP h2 hp with⟨ps',g1,g2⟩|rfl
  ·exact⟨ps',g1,by rintro rfl;exact hps g2.nil,g2⟩
  ·exact absurd rfl hps
 refine⟨h,β,⟨hi.env,hi.holds,hi.le0,hi.fresh,hi.below,hi.dis,hi.pin,fun i ps hp hps=>?_,fun i j ps qs hi' hp' hj' hq'=>?_⟩,hs.defers,hs.size,fun t sd ht=>?_⟩
 ·obtain⟨ps',g1,g3,g2⟩:=hne i ps hp hps
  obtain⟨q1,q2,vs,rs,T,q3,q4,q5,q6⟩:=hi.box i ps' g1 g3;obtain⟨v1,v2,e,hv⟩:=g2.all q4;have e2:tI i β vs=tI i β v1++tI i β v2:=by rw[e];unfold tI;cases lk i<;>simp
  exact⟨q1,q2,v1,tI i β v2++rs,T,by rw[←List.append_assoc,←e2];exact q3,hv,fun hg=>by rw[←q5 hg,e];simp[eZ5],h3.refs hp hv (fun v hv=>by rw[e];exact List.mem_append_left _ hv) q6⟩
 ·obtain⟨ps',g1,g3,_⟩:=hne i ps hi' hp'
  obtain⟨qs',k1,k3,_⟩:=hne j qs hj' hq';exact hi.inj i j _ _ g1 g3 k1 k3
 ·obtain⟨⟨sd',g1,g2⟩,g3⟩:=pP h1 ht
  obtain⟨v,q1,q2,_⟩:=hs.slot t sd' g1;exact⟨v,q1,g2.ok q2,g3⟩
def rL(h:GH)(w:World)(r:Pd)(e:Ending)(w':World):Prop:=
 ∃v h',e= .returned v∧Le h h'∧Holds h' w'∧(∀b o u,h' b o=some u→h b o=none→w.heap.size≤b)∧Below w.heap.size w w'∧r.p h' v
def Fn(P:Program)(En:Ev)(f:FuncId)(ps:List Pd)(r:Pd):Prop:=
 ∀(h:GH) (w:World) (vs:List Value),En.e w→Holds h w→AllV h ps vs→Calls P f vs.toArray w (rL h w r)
def gZE:List Pd→Nat→Sl
 |[],_=>[]
 |p::ps,k=>(k,.one p)::gZE ps (k+1)
theorem bZk{h:GH}:∀{ps:List Pd} {vs:List Value} {k t:Nat} {sd:SD},AllV h ps vs→aB (gZE ps k) t=some sd→∃p v,sd= .one p∧k≤t∧vs[t-k]? =some v∧p.p h v
 |[],_,_,_,_,_,h=>by cases h
 |p::ps,v::vs,k,t,sd,⟨a,b⟩,h=>by
  unfold gZE at h;rw[aC] at h;split at h
  ·rename_i e;subst e;cases h;exact⟨p,v,rfl,Nat.le_refl _,by simp,a⟩
  ·obtain⟨q,u,rfl,h1,h2,h3⟩:=bZk b h
   refine⟨q,u,rfl,oM,?_,h3⟩;rw[show t-k=(t-(k+1))+1 by omega]
   simpa using h2
 |_::_,[],_,_,_,h,_=>h.elim
def tL(P:Program)(fn:Func)(σ:St)(r:Pd):Prop:=
 ∀En n w0 h0 c h β a w,Inv En w0 h0 c h β σ.bx w→Slots n h β σ.sl σ.bx a→∃v,(results fn a.tmps).run P w= .ok v w∧r.p h v
def kFn(P:Program)(fn:Func)(r:Pd):Exit→St→Prop
 | .normal,σ=>tL P fn σ r
 | .ret,σ=>tL P fn σ r
 | .exit _,_=>False
 | .goto _,_=>False
 | .panic _,_=>False
 | .outgrown,_=>False
theorem aA{P:Program}{En:Ev}{f:FuncId}{fn:Func}{co:Code}{n:Nat}{ps:List Pd}{r:Pd}(hf:P.funcs[f]? =some fn)(hb:fn.body=some co)(hn:fn.ntmps=n)(hl:Nat.ble ps.length n=true)
  (H:∀w0 h0,WpD P En n w0 h0 c0 co (kFn P fn r) ⟨gZE ps 0,[]⟩):Fn P En f ps r:=by
 subst hn;intro h w vs hen hh hv;refine calls_of_wp hf hb ?_;have hle:vs.length≤fn.ntmps:=by rw[←hv.length];exact Nat.le_of_ble_eq_true hl
 refine H w h _ _ w ⟨h,fun _=>0,⟨hen,hh,Le.refl _,fun b o v e e0=>(by rw[e] at e0;cases e0),BelowM.refl _ _,fun _ h=>h.elim fun _ h=>h.1.elim,fun _ _=>rfl,fun i ps hp=>(by cases hp),fun i j ps qs hi=>(by cases hi)⟩,rfl,?_,fun t sd ht=>?_⟩ ?_
 ·simp;omega
 ·obtain⟨p,v,rfl,_,h2,h3⟩:=bZk hv ht
  have h2':vs[t]? =some v:=by simpa using h2
  have hlt:=(List.getElem?_eq_some_iff.1 h2').1;refine⟨v,?_,h3,trivial⟩;rw[Array.getElem?_append_left (by simpa using hlt)]
  simpa using h2'
 ·intro e τ a' w' hk hg
  have fin:tL P fn τ r→a'.defers=[]∧∃v,(results fn a'.tmps).run P w'= .ok v w'∧rL h w r (.returned v) w':=fun hR=>by
   obtain⟨h',β,hi,hs⟩:=hg;obtain⟨v,h1,h2⟩:=hR _ _ _ _ _ _ _ _ _ hi hs;exact⟨hs.defers,v,h1,v,h',rfl,hi.le0,hi.holds,hi.fresh,(hi.below.weaken fun _ h=>h.elim fun _ h=>h.1.elim).toBelow,h2⟩
  cases e with
  |normal=>exact fin hk
  |ret=>exact fin hk
  |exit i=>exact hk.elim
  |goto i=>exact hk.elim
  |panic i=>exact hk.elim
  |outgrown=>exact hk.elim
def PsV:List Pd→List Pd→Prop
 |[],[]=>True
 |p::ps,q::qs=>PLe p q∧PsV ps qs
 |_,_=>False
theorem PsV.all{h:GH}:∀{ps qs:List Pd} {vs:List Value},PsV ps qs→AllV h ps vs→AllV h qs vs
 |[],[],[],_,_=>trivial
 |_::_,_::_,_::_,⟨a,b⟩,⟨x,z⟩=>⟨a _ _ x,PsV.all b z⟩
 |[],[],_::_,_,h=>h.elim
 |_::_,_::_,[],_,h=>h.elim
 |[],_::_,_,h,_=>h.elim
 |_::_,[],_,h,_=>h.elim
theorem Fn.arg{P:Program}{En:Ev}{f:FuncId}{ps qs:List Pd}{r:Pd}(h:Fn P En f qs r)(hp:PsV ps qs):Fn P En f ps r:=fun hh w vs he ho ha=>h hh w vs he ho (hp.all ha)
end
section
open Go.RowKit
def RT(P:Program)(En:Ev)(n:Nat)(o:Oper)(sl:Sl)(bx:Bx)(e:Eff):Prop:=
 ∀sl' bx',(∀x∈o.op.operands.toList,osd sl' x=osd sl x)→(∀b∈e.rb,aB bx' b=aB bx b)→(∀b∈e.wb.map (·.1),aB bx' b=aB bx b)→Tri P En n o sl' bx' e
section
variable{P:Program}{En:Ev}{n:Nat}{ops:Array Oper}{o:Oper}{sl:Sl}{bx:Bx}{e:Eff}
theorem sD{sl':Sl}(h:∀t∈o.looksAt ops,aB sl' t=aB sl t):∀x∈o.op.operands.toList,osd sl' x=osd sl x:=by
 intro x hx;cases x with
 |tmp t=>exact h t (List.mem_append_left _ (List.mem_filterMap.2 ⟨.tmp t,hx,rfl⟩))
 |const v=>rfl
 |func f=>rfl
 |global g=>rfl
theorem LT.plain(hg:o.guard=none)(h:RT P En n o sl bx e):LT P En n ops o sl bx e:=fun sl' bx' h1 h2 h3=>
 TriG.of_tri hg (h sl' bx' (sD h1) h2 h3)
theorem pE{g t:Nat}{b:Bool}(hg:o.guard=some (g,b))(hd:(ops[g]?).bind (·.dst)=some t):t∈o.looksAt ops:=by
 unfold Oper.looksAt;rw[hg];simp[hd]
theorem LT.run{g t:Nat}{b:Bool}(hg:o.guard=some (g,b))(hd:(ops[g]?).bind (·.dst)=some t)(ht:aB sl t=some (.one (ex (.bool b))))(h:RT P En n o sl bx e):LT P En n ops o sl bx e:=fun sl' bx' h1 h2 h3=>
 TriG.of_run hg hd (by rw[h1 t (pE hg hd)];exact ht) (h sl' bx' (sD h1) h2 h3)
theorem LT.skip{g t:Nat}{b:Bool}(hg:o.guard=some (g,b))(hd:(ops[g]?).bind (·.dst)=some t)(ht:aB sl t=some (.one (ex (.bool (!b))))):LT P En n ops o sl bx ⟨.one (ex undef),[],[]⟩:=fun _ _ h1 _ _=>
 TriG.of_skip hg hd (by rw[h1 t (pE hg hd)];exact ht)
theorem RT.pure{sd:SD}(H:∀(ρ:Operand→Value) (h:GH) (β:Nat→Nat) (bx':Bx),(∀x∈o.op.operands.toList,∀s,osd sl x=some s→s.ok h β (ρ x)∧s.live bx')→∃v,(∀w,Holds h w→(execOp ρ o).run P w= .ok (.value v) w)∧sd.ok h β v∧sd.live bx'):
  RT P En n o sl bx ⟨sd,[],[]⟩:=by
 intro sl' bx' h1 _ _ w0 h0 c h β a w Q hi hs;obtain⟨v,hv,hok,hl⟩:=H a.eval h β bx' (fun x hx s hxs=>cH hs (by rw[h1 x hx];exact hxs))
 unfold Oper.wp;rw[hv w hi.holds];exact⟨v,h,β,rfl,hi,Le.refl _,fun _ _=>rfl,hok,hl⟩
end
section
variable{P:Program}{En:Ev}{n:Nat}{sl:Sl}{bx:Bx}{dst:Option Tmp}{ty:TypeId}{pos:String}{after:Array Edge}{guard:Option (Nat×Bool)}
theorem eM{x:Operand}{sd:SD}(hx:osd sl x=some sd):RT P En n ⟨dst,.move x,ty,pos,after,guard⟩ sl bx ⟨sd,[],[]⟩:=
 RT.pure fun ρ _ _ _ H=>by
  obtain⟨h1,h2⟩:=H x (by simp[Op.operands]) sd hx
  exact⟨ρ x,fun _ _=>rfl,h1,h2⟩
theorem tT{x:Operand}{sd:SD}(hx:osd sl x=some sd):RT P En n ⟨dst,.assign x,ty,pos,after,guard⟩ sl bx ⟨sd,[],[]⟩:=
 RT.pure fun ρ _ _ _ H=>by
  obtain⟨h1,h2⟩:=H x (by simp[Op.operands]) sd hx
  exact⟨ρ x,fun _ _=>rfl,h1,h2⟩
theorem dE{c x y:Operand}{sd:SD}(hc:osd sl c=some (.one (ex (.bool true))))(hx:osd sl x=some sd):RT P En n ⟨dst,.pick c x y,ty,pos,after,guard⟩ sl bx ⟨sd,[],[]⟩:=
 RT.pure fun ρ _ _ _ H=>by
  obtain⟨h1,h2⟩:=H x (by simp[Op.operands]) sd hx
  have h3:ρ c= .bool true:=(H c (by simp[Op.operands]) _ hc).1
  exact⟨ρ x,fun _ _=>by simp[execOp,h3,asBool],h1,h2⟩
theorem bZ{c x y:Operand}{sd:SD}(hc:osd sl c=some (.one (ex (.bool false))))(hx:osd sl y=some sd):RT P En n ⟨dst,.pick c x y,ty,pos,after,guard⟩ sl bx ⟨sd,[],[]⟩:=
 RT.pure fun ρ _ _ _ H=>by
  obtain⟨h1,h2⟩:=H y (by simp[Op.operands]) sd hx
  have h3:ρ c= .bool false:=(H c (by simp[Op.operands]) _ hc).1
  exact⟨ρ y,fun _ _=>by simp[execOp,h3,asBool],h1,h2⟩
theorem aY{bop:BinOp}{T T':TypeId}{x y:Operand}{vx vy v:Value}(hx:osd sl x=some (.one (ex vx)))(hy:osd sl y=some (.one (ex vy)))
  (hr:∀w,(do eqGuard bop T x y vx vy;Go.binOp bop T vx vy:Sem Value).run P w= .ok v w):RT P En n ⟨dst,.binOp bop T x y T',ty,pos,after,guard⟩ sl bx ⟨.one (ex v),[],[]⟩:=
 RT.pure fun ρ _ _ _ H=>by
  have h1:ρ x=vx:=(H x (by simp[Op.operands]) _ hx).1
  have h2:ρ y=vy:=(H y (by simp[Op.operands]) _ hy).1
  refine⟨v,fun w _=>?_,rfl,trivial⟩;simp only[execOp,h1,h2];rw[Sem.run_bind,hr w];rfl
theorem aH{bop:BinOp}{T T':TypeId}{x y:Operand}{vx vy v v':Value}(hx:osd sl x=some (.one (ex vx)))(hy:osd sl y=some (.one (ex vy)))
  (hr:∀w,(do eqGuard bop T x y vx vy;Go.binOp bop T vx vy:Sem Value).run P w= .ok v w) (e:v=v'):RT P En n ⟨dst,.binOp bop T x y T',ty,pos,after,guard⟩ sl bx ⟨.one (ex v'),[],[]⟩:=by subst e;exact aY hx hy hr
theorem fZH{uop:UnOp}{T:TypeId}{x:Operand}{vx v:Value}(hx:osd sl x=some (.one (ex vx)))(hr:∀w,(Op.unary uop vx).run P w= .ok v w):RT P En n ⟨dst,.unOp uop T x,ty,pos,after,guard⟩ sl bx ⟨.one (ex v),[],[]⟩:=
 RT.pure fun ρ _ _ _ H=>by
  have h1:ρ x=vx:=(H x (by simp[Op.operands]) _ hx).1
  refine⟨v,fun w _=>?_,rfl,trivial⟩;simp only[execOp,h1];rw[Sem.run_bind,hr w];rfl
theorem bZ7{S T:TypeId}{x:Operand}{vx v:Value}(hx:osd sl x=some (.one (ex vx)))(hr:∀w,(convert S T vx).run P w= .ok v w):RT P En n ⟨dst,.convert S T x,ty,pos,after,guard⟩ sl bx ⟨.one (ex v),[],[]⟩:=
 RT.pure fun ρ _ _ _ H=>by
  have h1:ρ x=vx:=(H x (by simp[Op.operands]) _ hx).1
  refine⟨v,fun w _=>?_,rfl,trivial⟩;simp only[execOp,h1];rw[Sem.run_bind,hr w];rfl
theorem eZH{S T:TypeId}{x:Operand}{vx v v':Value}(hx:osd sl x=some (.one (ex vx)))(hr:∀w,(convert S T vx).run P w= .ok v w)(e:v=v'):RT P En n ⟨dst,.convert S T x,ty,pos,after,guard⟩ sl bx ⟨.one (ex v'),[],[]⟩:=by subst e;exact bZ7 hx hr
theorem gN{uop:UnOp}{T:TypeId}{x:Operand}{vx v v':Value}(hx:osd sl x=some (.one (ex vx)))(hr:∀w,(Op.unary uop vx).run P w= .ok v w)(e:v=v'):RT P En n ⟨dst,.unOp uop T x,ty,pos,after,guard⟩ sl bx ⟨.one (ex v'),[],[]⟩:=by subst e;exact fZH hx hr
def eZp(P:Program)(T:TypeId)(k:Nat):Prop:=∃d,P.underlying T=some d∧d.isRow=true∧(P.info? T).map (·.size)=some k
def kZ3(P:Program)(T:TypeId):Prop:=∃d,P.underlying T=some d∧d.isRow=false∧(P.info? T).map (·.size)=some 1
theorem kF{T:TypeId}{d:TypeDesc}(h:P.underlying T=some d)(w:World):(isAgg T).run P w= .ok d.isRow w:=by
 unfold isAgg;simp only[Sem.run_bind,run_underlying h,Result.andThen_ok];cases d<;>rfl
theorem tY{w:World}{b o:Nat}{vs rest us:List Value}{T:TypeId}(hg:w.heap[b]? =some (.cells (vs++rest).toArray T (0,0)))(hu:(vs.drop o).take us.length=us):w.rangeAt b o us:=by
 intro j v hj;have:vs[o+j]? =some v:=by
  rw[←hu,List.getElem?_take] at hj;split at hj
  ·simpa using hj
  ·cases hj
 rw[cell_of_row w b (o+j) _ T _ hg];have hlt:=(List.getElem?_eq_some_iff.1 this).1;simpa [List.getElem?_append_left hlt] using this
theorem xX{T:TypeId}{x:Operand}{b k:Nat}{ps:List Pd}(o:Nat)(hx:osd sl x=some (.ptr b o))(hb:aB bx b=some ps)(ht:eZp P T k)(hk:Nat.ble (o+k) ps.length=true)(hl:lk b=false:=by rfl):
  RT P En n ⟨dst,.load T x,ty,pos,after,guard⟩ sl bx ⟨.one (cD ((ps.drop o).take k)),[b],[]⟩:=by
 intro sl' bx' h1 h2 _ w0 h0 c h β a w Q hi hs;have hx':a.eval x= .pointer (some ⟨β b,o,none⟩):=(cH hs (x:=x) (sd:= .ptr b o) (by rw[h1 x (by simp[Op.operands])];exact hx)).1
 obtain⟨d,hd1,hd2,hd3⟩:=ht;have hk:=Nat.le_of_ble_eq_true hk
 by_cases hps:ps=[]
 ·subst hps
  have hk0:k=0:=by simp at hk;omega
  subst hk0;refine wp_load_mid T x rfl (β b) o hx' [] d (fun j v hj=>by simp at hj) hd1 hd2 (by simpa using hd3) ?_
  exact⟨_,h,β,rfl,hi,Le.refl _,fun _ _=>rfl,⟨[],rfl,by simp[All2]⟩,trivial⟩
 obtain⟨_,_,vs,rest,T',hg,ha,_⟩:=hi.box0 b ps (by rw[h2 b (by simp)];exact hb) hps hl
 have hal:=(ha.drop o).take k;have hlen:=ha.length;have hl:((vs.drop o).take k).length=k:=by simp;omega
 refine wp_load_mid T x rfl (β b) o hx' ((vs.drop o).take k) d (tY hg (by rw[hl])) hd1 hd2 (by rw[hl];exact hd3) ?_
 exact⟨_,h,β,rfl,hi,Le.refl _,fun _ _=>rfl,⟨_,rfl,hal⟩,trivial⟩
theorem cZU{T:TypeId}{x:Operand}{b:Nat}{ps:List Pd}{p:Pd}(o:Nat)(hx:osd sl x=some (.ptr b o))(hb:aB bx b=some ps)(ht:kZ3 P T)(hp:ps[o]? =some p)(hl:lk b=false:=by rfl):
  RT P En n ⟨dst,.load T x,ty,pos,after,guard⟩ sl bx ⟨.one p,[b],[]⟩:=by
 intro sl' bx' h1 h2 _ w0 h0 c h β a w Q hi hs;have hx':a.eval x= .pointer (some ⟨β b,o,none⟩):=(cH hs (x:=x) (sd:= .ptr b o) (by rw[h1 x (by simp[Op.operands])];exact hx)).1
 obtain⟨_,_,vs,rest,T',hg,ha,_⟩:=hi.box0 b ps (by rw[h2 b (by simp)];exact hb) (by rintro rfl;simp at hp) hl
 obtain⟨v,hv,hpv,_⟩:=ha.get hp;obtain⟨d,hd1,hd2,_⟩:=ht;have hc:w.cell? ⟨β b,o,none⟩=some v:=by
  rw[cell_of_row w _ o _ T' _ hg];have hlt:=(List.getElem?_eq_some_iff.1 hv).1;simpa [List.getElem?_append_left hlt] using hv
 unfold Oper.wp;have:(execOp a.eval ⟨dst,.load T x,ty,pos,after,guard⟩).run P w= .ok (.value v) w:=by
  simp only[execOp,hx',Instr.loadAt,Instr.sureAddr,loadVar,Sem.run_bind,Sem.run_pure,Result.andThen_ok,kF hd1,hd2];simp[load,Sem.run,hc]
 rw[this];exact⟨v,h,β,rfl,hi,Le.refl _,fun _ _=>rfl,hpv,trivial⟩
theorem tO{w:World}{b o k:Nat}{vs rest:List Value}{T:TypeId}(hg:w.heap[b]? =some (.cells (vs++rest).toArray T (0,0)))(hk:o+k≤vs.length):w.there b o k:=by
 intro j hj;have hlt:o+j<vs.length:=oM;refine⟨?_,?_⟩
 ·rw[cell_of_row w b (o+j) _ T _ hg];simp[List.getElem?_append_left hlt,hlt]
 ·unfold World.frozen?;simp[hg]
theorem aZ1{T:TypeId}{x y:Operand}{b k:Nat}{ps qs:List Pd}(o:Nat)(hx:osd sl x=some (.ptr b o))(hy:osd sl y=some (.one (cD qs)))(hb:aB bx b=some ps)(ht:eZp P T k)(hq:Nat.beq qs.length k=true)(hk:Nat.ble (o+k) ps.length=true)(hpos:Nat.blt 0 k=true)(hlk:lk b=false:=by rfl):
  RT P En n ⟨dst,.store T x y,ty,pos,after,guard⟩ sl bx ⟨.one (ex undef),[b],[(b,eW ps o qs)]⟩:=by
 intro sl' bx' h1 h2 _ w0 h0 c h β a w Q hi hs;have hx':a.eval x= .pointer (some ⟨β b,o,none⟩):=(cH hs (x:=x) (sd:= .ptr b o) (by rw[h1 x (by simp[Op.operands])];exact hx)).1
 obtain⟨us,hus,hall⟩:(cD qs).p h (a.eval y):=(cH hs (x:=y) (sd:= .one (cD qs)) (by rw[h1 y (by simp[Op.operands])];exact hy)).1
 have hb':aB bx' b=some ps:=by rw[h2 b (by simp)];exact hb
 have hk:=Nat.le_of_ble_eq_true hk;have hpos:0<k:=Nat.le_of_ble_eq_true hpos;have hps:ps≠[]:=by rintro rfl;simp at hk;omega
 obtain⟨_,_,vs,rest,T',hg,ha,_⟩:=hi.box0 b ps hb' hps hlk;have hq:=Nat.eq_of_beq_eq_true hq;have hlen:=ha.length;have hl:=hall.length;obtain⟨d,hd1,hd2,hd3⟩:=ht;refine wp_store_mid T x y rfl (β b) o us.toArray hx' hus ?_ ?_ (all_oneCell_toArray hall.one) ?_
 ·exact tO hg (by simp;omega)
 ·rw[hd3];simp;omega
 ·exact⟨undef,h,β,rfl,hi.store hb' hps hlk hall o oM,Le.refl _,fun _ _=>rfl,rfl,trivial⟩
theorem iK{v:Value}(h:v.oneCell'=true):v.cells= #[v]:=by cases v<;>simp[Value.oneCell'] at h<;>rfl
theorem tS{T:TypeId}{x y:Operand}{b:Nat}{ps:List Pd}{q:Pd}[C1 q](o:Nat)(hx:osd sl x=some (.ptr b o))(hy:osd sl y=some (.one q))(hb:aB bx b=some ps)(ht:kZ3 P T)(hk:Nat.blt o ps.length=true)(hlk:lk b=false:=by rfl):
  RT P En n ⟨dst,.store T x y,ty,pos,after,guard⟩ sl bx ⟨.one (ex undef),[b],[(b,eW ps o [q])]⟩:=by
 intro sl' bx' h1 h2 _ w0 h0 c h β a w Q hi hs;have hx':a.eval x= .pointer (some ⟨β b,o,none⟩):=(cH hs (x:=x) (sd:= .ptr b o) (by rw[h1 x (by simp[Op.operands])];exact hx)).1
 have hq:q.p h (a.eval y):=(cH hs (x:=y) (sd:= .one q) (by rw[h1 y (by simp[Op.operands])];exact hy)).1
 have hb':aB bx' b=some ps:=by rw[h2 b (by simp)];exact hb
 have hk:o+1≤ps.length:=Nat.le_of_ble_eq_true hk;have hps:ps≠[]:=by rintro rfl;simp at hk
 obtain⟨_,_,vs,rest,T',hg,ha,_⟩:=hi.box0 b ps hb' hps hlk;have hlen:=ha.length;have h1c:=C1.c1 (p:=q) h _ hq;have hth:=tO (k:=1) hg (show o+1≤vs.length by omega)
 obtain⟨hs1,hs2⟩:=hth 0 oM;obtain⟨d,hd1,hd2,hd3⟩:=ht;have hrun:(execOp a.eval ⟨dst,.store T x y,ty,pos,after,guard⟩).run P w= .ok .skip (w.setCells (β b) o [a.eval y]):=by
  have c1:∀j,j<[a.eval y].length→(w.cell? ⟨β b,o+0+j,none⟩).isSome=true:=by
   intro j hj;have:j=0:=by simpa using hj
   subst this;exact hs1
  have c2:∀j,j<[a.eval y].length→w.frozen? ⟨β b,o+0+j,none⟩=false:=by
   intro j hj;have:j=0:=by simpa using hj
   subst this;exact hs2
  have hsc:=run_storeCells_cells (P:=P) (β b) o [a.eval y] 0 w c1 c2 (fun v hv=>by simp at hv;rw[hv];exact h1c)
  cases hq:P.info? T with
  |none=>rw[hq] at hd3;cases hd3
  |some i=>
   rw[hq] at hd3;have hi1:i.size=1:=by simpa using hd3
   simp only[execOp,hx',Instr.storeAt,Instr.sureAddr,storeVar,Sem.run_bind,Sem.run_pure,Result.andThen_ok,iK h1c,sizeOf,run_typeInfo _ hq,hi1];simp only[List.size_toArray,List.length_singleton,ne_eq,not_true_eq_false,if_false];simp only[Nat.add_zero] at hsc;rw[hsc];rfl
 unfold Oper.wp;rw[hrun];exact⟨undef,h,β,rfl,hi.store hb' hps hlk (qs:=[q]) (us:=[a.eval y]) ⟨hq,h1c,trivial⟩ o hk,Le.refl _,fun _ _=>rfl,rfl,trivial⟩
theorem aV{β:Nat→Nat}{i b j:Nat}(h:j≠i):upd β i b j=β j:=by unfold upd;rw[if_neg h]
theorem cK{β:Nat→Nat}{i b:Nat}:upd β i b i=b:=by unfold upd;rw[if_pos rfl]
theorem fZW{o:Oper}{i:Nat}{ps:List Pd}(hi0:i<400)(hn:aB bx i=none)
  (H:∀(h:GH) (β:Nat→Nat) (bx':Bx) (ρ:Operand→Value),(∀x∈o.op.operands.toList,∀s,osd sl x=some s→s.ok h β (ρ x)∧s.live bx')→∃(vs:List Value) (T:TypeId),All2 h ps vs∧∀w,(execOp ρ o).run P w= .ok (.value (.pointer (some ⟨w.heap.size,0,none⟩))) (w.alloc (.cells vs.toArray T))):
  RT P En n o sl bx ⟨.ptr i 0,[],[(i,ps)]⟩:=by
 intro sl' bx' h1 _ h3 w0 h0 c h β a w Q hi hs;have hn':aB bx' i=none:=by rw[h3 i (by simp)];exact hn
 obtain⟨vs,T,ha,hr⟩:=H h β bx' a.eval (fun x hx s hxs=>cH hs (by rw[h1 x hx];exact hxs))
 unfold Oper.wp;rw[hr w];refine⟨_,h,upd β i w.heap.size,rfl,hi.alloc i hi0 hn' ha T,Le.refl _,fun j hj=>?_,?_,?_⟩
 ·exact aV (by rintro rfl;exact hj hn')
 ·show _=_;rw[cK]
 ·show aB ((i,ps)::bx') i≠none;rw[aC,if_pos rfl];simp
theorem xR(T:TypeId)(v:Value)(w:World):(newVar T v).run P w= .ok ⟨w.heap.size,0,none⟩ (w.alloc (.cells v.cells T)):=rfl
theorem lZs{T:TypeId}{x:Operand}{ps:List Pd}(i:Nat)(hx:osd sl x=some (.one (cD ps)))(hi0:i<400)(hn:aB bx i=none):RT P En n ⟨dst,.box T x,ty,pos,after,guard⟩ sl bx ⟨.ptr i 0,[],[(i,ps)]⟩:=
 fZW hi0 hn fun h β bx' ρ H=>by
  obtain⟨vs,hv,ha⟩:(cD ps).p h (ρ x):=(H x (by simp[Op.operands]) _ hx).1
  exact⟨vs,T,ha,fun w=>by simp only[execOp,Instr.box,Sem.run_bind,hv];rw[xR];rfl⟩
def gR(P:Program)(T:TypeId)(vs:List Value):Prop:=(P.info? T).map (fun i=>i.zero.map (·.cells))=some (some vs.toArray)∧∀v∈vs,v.oneCell'=true
theorem mL{h:GH}:∀{vs:List Value},(∀v∈vs,v.oneCell'=true)→All2 h (vs.map ex) vs
 |[],_=>trivial
 |v::vs,hv=>⟨rfl,hv v (by simp),mL fun u hu=>hv u (by simp[hu])⟩
theorem iZ4{T:TypeId}{vs:List Value}(i:Nat)(hz:gR P T vs)(hi0:i<400)(hn:aB bx i=none):RT P En n ⟨dst,.alloc T,ty,pos,after,guard⟩ sl bx ⟨.ptr i 0,[],[(i,vs.map ex)]⟩:=
 fZW hi0 hn fun h β bx' ρ H=>by
  obtain⟨hz1,hz2⟩:=hz;refine⟨vs,T,mL hz2,fun w=>?_⟩;cases hq:P.info? T with
  |none=>rw[hq] at hz1;cases hz1
  |some inf=>
   rw[hq] at hz1;simp only[Option.map_some,Option.some.injEq] at hz1;cases hzz:inf.zero with
   |none=>rw[hzz] at hz1;cases hz1
   |some z=>
    rw[hzz] at hz1;simp only[Option.map_some,Option.some.injEq] at hz1;simp only[execOp,Instr.alloc,zeroValue,Sem.run_bind,run_typeInfo _ hq,Result.andThen_ok,hzz,Sem.run_pure];rw[xR,hz1];rfl
def gZH(P:Program)(S:TypeId)(f off:Nat):Prop:=∃fs fd,P.underlying S=some (.struct fs)∧fs[f]? =some fd∧fd.offset=off∧(P.info? fd.type).map (fun i=>Nat.beq i.size 0)=some false
theorem bZ6{S:TypeId}{x:Operand}{f off b o:Nat}(hx:osd sl x=some (.ptr b o))(hf:gZH P S f off):RT P En n ⟨dst,.fieldAddr S x f,ty,pos,after,guard⟩ sl bx ⟨.ptr b (o+off),[],[]⟩:=
 RT.pure fun ρ h β bx' H=>by
  obtain⟨h1,h2⟩:=H x (by simp[Op.operands]) _ hx
  have h1:ρ x= .pointer (some ⟨β b,o,none⟩):=h1;obtain⟨fs,fd,e1,e2,e3,e45⟩:=hf;obtain⟨i,e4,e5'⟩:=Option.map_eq_some_iff.1 e45;have e5:i.size≠0:=by intro h0;rw[h0] at e5';cases e5'
  refine⟨.pointer (some ⟨β b,o+off,none⟩),fun w _=>?_,rfl,h2⟩;simp only[execOp,h1,Instr.fieldAt,Instr.sureAddr,Sem.run_bind,run_underlying e1,Result.andThen_ok,e2,Sem.run_pure,fieldPlace,sizeOf,run_typeInfo _ e4,if_neg e5];rw[Addr.add_mid,e3]
def gZG(P:Program)(S:TypeId)(f off:Nat)(T:TypeId):Prop:=∃fs fd,P.underlying S=some (.struct fs)∧fs[f]? =some fd∧fd.offset=off∧fd.type=T
theorem gZZ{S T:TypeId}{x:Operand}{f off k:Nat}{ps:List Pd}(hx:osd sl x=some (.one (cD ps)))(hf:gZG P S f off T)(ht:eZp P T k):RT P En n ⟨dst,.field S x f,ty,pos,after,guard⟩ sl bx ⟨.one (cD ((ps.drop off).take k)),[],[]⟩:=
 RT.pure fun ρ h β bx' H=>by
  obtain⟨vs,hv,ha⟩:(cD ps).p h (ρ x):=(H x (by simp[Op.operands]) _ hx).1
  obtain⟨fs,fd,e1,e2,e3,e4⟩:=hf;obtain⟨d,hd1,hd2,hd3⟩:=ht;cases hq:P.info? T with
  |none=>rw[hq] at hd3;cases hd3
  |some i=>
   rw[hq] at hd3;have hi:i.size=k:=by simpa using hd3
   refine⟨.agg ((vs.drop off).take k).toArray,fun w _=>?_,⟨_,rfl,(ha.drop off).take k⟩,trivial⟩;simp only[execOp,hv,Instr.field,Sem.run_bind,run_underlying e1,Result.andThen_ok,e2,asAgg,Sem.run_pure,part,e4,kF hd1,hd2,e3,sizeOf];simp[List.extract_eq_take_drop,run_typeInfo _ hq,hi]
def Part(sl:Sl)(x:Operand)(ps:List Pd):Prop:=(∃p,C1 p∧osd sl x=some (.one p)∧ps=[p])∨osd sl x=some (.one (cD ps))
theorem Part.ok{x:Operand}{ps:List Pd}(hp:Part sl x ps){ρ:Operand→Value}{h:GH}{β:Nat→Nat}{bx':Bx}(H:∀s,osd sl x=some s→s.ok h β (ρ x)∧s.live bx'):∃vs:List Value,(ρ x).cells=vs.toArray∧All2 h ps vs:=by
 rcases hp with⟨p,h1,h2,rfl⟩|h2
 ·have hp:p.p h (ρ x):=(H _ h2).1
  have h1c:=C1.c1 (p:=p) h _ hp;exact⟨[ρ x],iK h1c,hp,h1c,trivial⟩
 ·obtain⟨vs,hv,ha⟩:(cD ps).p h (ρ x):=(H _ h2).1
  exact⟨vs,by rw[hv];rfl,ha⟩
theorem dZG:∀(us:List Value) (k off:Nat) (cs:Array Value),(us.zipIdx k).foldl (fun cs x=>cs.setIfInBounds (off+x.2) x.1) cs=(eW cs.toList (off+k) us).toArray
 |[],_,_,cs=>by simp[eW]
 |u::us,k,off,cs=>by
  simp only[List.zipIdx_cons,List.foldl_cons,eW];rw[dZG us (k+1) off];simp[Nat.add_assoc]
def mH(sl:Sl):List (Nat×Operand)→List (Nat×List Pd)→Prop
 |[],[]=>True
 |x::xs,p::ps=>x.1=p.1∧Part sl x.2 p.2∧mH sl xs ps
 |_,_=>False
def pG(pl:Nat→Option (Nat×Nat)):List Pd→List (Nat×List Pd)→Option (List Pd)
 |cs,[]=>some cs
 |cs,(i,ps)::r=>match pl i with
  |none=>none
  |some (off,size)=>cond (Nat.beq ps.length size&&Nat.ble (off+size) cs.length) (pG pl (eW cs off ps) r) none
theorem sP{ρ:Operand→Value}{h:GH}{β:Nat→Nat}{bx':Bx}{pl:Nat→Option (Nat×Nat)}:∀{xs:List (Nat×Operand)} {ps:List (Nat×List Pd)} {cs rs:List Pd} {vs:List Value},mH sl xs ps→(∀x∈xs,∀s,osd sl x.2=some s→s.ok h β (ρ x.2)∧s.live bx')→pG pl cs ps=some rs→All2 h cs vs→
  ∃us:List Value,Instr.fill pl vs.toArray (xs.map fun x=>(x.1,ρ x.2))=some us.toArray∧All2 h rs us
 |[],[],cs,rs,vs,_,_,hf,ha=>by cases hf;exact⟨vs,rfl,ha⟩
 |(i,x)::xs,(j,ps)::r,cs,rs,vs,⟨e,hp,hr⟩,H,hf,ha=>by
  simp only at e hp;subst e;obtain⟨us,hu,hua⟩:=hp.ok (H (i,x) (by simp))
  unfold pG at hf;cases hpl:pl i with
  |none=>rw[hpl] at hf;cases hf
  |some os=>
   obtain⟨off,size⟩:=os;rw[hpl] at hf;simp only at hf;cases hc:Nat.beq ps.length size&&Nat.ble (off+size) cs.length with
   |false=>rw[hc] at hf;cases hf
   |true=>
    rw[hc] at hf;simp only[Bool.and_eq_true] at hc;have e1:=Nat.eq_of_beq_eq_true hc.1;have e2:=Nat.le_of_ble_eq_true hc.2;have e3:=hua.length;have e4:=ha.length;obtain⟨us',h1,h2⟩:=sP hr (fun y hy=>H y (by simp[hy])) hf (ha.put off hua)
    refine⟨us',?_,h2⟩;simp only[List.map_cons,Instr.fill];rw[hpl];simp only[hu];rw[if_neg (by simp;omega)]
    rw[←h1];congr 1
    have:=dZG us 0 off vs.toArray;simpa using this
 |[],_::_,_,_,_,h,_,_,_=>h.elim
 |_::_,[],_,_,_,h,_,_,_=>h.elim
def eZq(P:Program)(T:TypeId)(pl:List (Nat×Nat))(zs:List Value):Prop:=
 gR P T zs∧∃fs,P.underlying T=some (.struct fs)∧∀w,(fs.mapM fun f=>do pure (f.offset,←sizeOf f.type):Sem (Array (Nat×Nat))).run P w= .ok pl.toArray w
theorem lS{T:TypeId}{zs:List Value}(hz:gR P T zs)(w:World):∃z,(zeroValue T).run P w= .ok z w∧z.cells=zs.toArray:=by
 obtain⟨hz1,_⟩:=hz;cases hq:P.info? T with
 |none=>rw[hq] at hz1;cases hz1
 |some inf=>
  rw[hq] at hz1;simp only[Option.map_some,Option.some.injEq] at hz1;cases hzz:inf.zero with
  |none=>rw[hzz] at hz1;cases hz1
  |some z=>
   rw[hzz] at hz1;simp only[Option.map_some,Option.some.injEq] at hz1;exact⟨z,by simp only[zeroValue,Sem.run_bind,run_typeInfo _ hq,Result.andThen_ok,hzz,Sem.run_pure],hz1⟩
theorem iZ3{T:TypeId}{xs:List (Nat×Operand)}{ps:List (Nat×List Pd)}{pl:List (Nat×Nat)}{zs:List Value}{rs:List Pd}(ht:eZq P T pl zs)(hp:mH sl xs ps)(hf:pG (fun(i:Nat)=>pl[i]?) (zs.map ex) ps=some rs):
  RT P En n ⟨dst,.build T xs.toArray,ty,pos,after,guard⟩ sl bx ⟨.one (cD rs),[],[]⟩:=
 RT.pure fun ρ h β bx' H=>by
  obtain⟨hz,fs,e1,e2⟩:=ht;obtain⟨us,h1,h2⟩:=sP (ρ:=ρ) (β:=β) (bx':=bx') hp (fun x hx s hs=>H x.2 (by simp[Op.operands];exact⟨x.1,hx⟩) s hs) hf (mL hz.2)
  refine⟨.agg us.toArray,fun w _=>?_,⟨us,rfl,h2⟩,trivial⟩;obtain⟨z,z1,z2⟩:=lS hz w;simp only[execOp,Instr.build,Sem.run_bind,z1,Result.andThen_ok,run_underlying e1];rw[e2 w];simp only[Result.andThen_ok,z2];have:(xs.toArray.map fun x=>(x.1,ρ x.2)).toList=xs.map fun x=>(x.1,ρ x.2):=by simp
  have hpl:(fun(i:Nat)=>pl.toArray[i]?)=fun(i:Nat)=>pl[i]? :=by funext i;simp
  rw[this,hpl,h1];rfl
theorem eZG{x:Operand}{i:Nat}{ps:List Pd}{p:Pd}(hx:osd sl x=some (.one (dK ps)))(hp:ps[i]? =some p):RT P En n ⟨dst,.extract x i,ty,pos,after,guard⟩ sl bx ⟨.one p,[],[]⟩:=
 RT.pure fun ρ h β bx' H=>by
  obtain⟨vs,hv,ha⟩:(dK ps).p h (ρ x):=(H x (by simp[Op.operands]) _ hx).1
  obtain⟨v,hv2,hpv⟩:=ha.get hp;refine⟨v,fun w _=>?_,hpv,trivial⟩;simp only[execOp,hv,Instr.extract];simp[hv2]
def Body (P : Program) (f : FuncId) : Prop := ∃ fn, P.funcs[f]? = some fn ∧ fn.body.isNone = false ∧ (fn.name == "runtime.NumGoroutine") = false
def args(sl:Sl):List Operand→List Pd→Prop
 |[],[]=>True
 |x::xs,p::ps=>osd sl x=some (.one p)∧args sl xs ps
 |_,_=>False
theorem oG{ρ:Operand→Value}{h:GH}{β:Nat→Nat}{bx':Bx}:∀{xs:List Operand} {ps:List Pd},args sl xs ps→(∀x∈xs,∀s,osd sl x=some s→s.ok h β (ρ x)∧s.live bx')→AllV h ps (xs.map ρ)
 |[],[],_,_=>trivial
 |x::xs,p::ps,⟨a,b⟩,H=>⟨(H x (by simp) _ a).1,oG b fun y hy=>H y (by simp[hy])⟩
 |[],_::_,h,_=>h.elim
 |_::_,[],h,_=>h.elim
theorem lZr{f:FuncId}{xs:List Operand}{ats:Array TypeId}{ps:List Pd}{r:Pd}(hf:Fn P En f ps r)(hb:Body P f)(ha:args sl xs ps):
  RT P En n ⟨dst,.call ⟨.value (.func f),xs.toArray,ats⟩,ty,pos,after,guard⟩ sl bx ⟨.one r,[],[]⟩:=by
 intro sl' bx' h1 _ _ w0 h0 c h β a w Q hi hs;obtain⟨fn,hfn,hbody,hname⟩:=hb;have hargs:AllV h ps (xs.map a.eval):=oG ha (fun x hx s hxs=>cH hs (by rw[h1 x (by simp[Op.operands,Call.operands,hx])];exact hxs))
 unfold Oper.wp;rw[execOp_call_go];have hrun:(callFunc f (#[]++xs.toArray.map a.eval++ #[])).run P w= .ok (.enter f (xs.map a.eval).toArray) w:=by
  simp only[callFunc,Sem.run_bind,run_program,Result.andThen_ok,hfn,hname,hbody];simp
 rw[hrun];refine Calls.mono (hf h w _ hi.envNow hi.holds hargs) ?_;rintro e w' ⟨v,h',rfl,g1,g2,g3,g4,g5⟩;exact⟨v,h',β,rfl,hi.call g1 g2 g3 g4,g1,fun _ _=>rfl,g5,trivial⟩
end
end
section
open Go.RowKit
section
variable{P:Program}{fn:Func}{σ:St}{r:Pd}
def rX(tmps:Array Value):ResultVar→Sem Value
 | .tmp t=>pure (tmps.getD t undef)
 | .cell a t=>do loadVar t (←asAddr (tmps.getD a undef))
inductive RV (P:Program) (σ:St):ResultVar→Pd→Prop
 |tmp {t:Nat} {p:Pd} (h:aB σ.sl t=some (.one p)):RV P σ (.tmp t) p
 |cell {t b k:Nat} {T:TypeId} {ps:List Pd} (h:aB σ.sl t=some (.ptr b 0)) (hb:aB σ.bx b=some ps) (ht:eZp P T k) (hk:Nat.beq ps.length k=true) (hl:lk b=false:=by rfl):RV P σ (.cell t T) (cD ps)
theorem RV.run{rv:ResultVar}{p:Pd}(hr:RV P σ rv p){En:Ev}{n:Nat}{w0:World}{h0:GH}{c:Cx}{h:GH}{β:Nat→Nat}{a:Act}{w:World}(hi:Inv En w0 h0 c h β σ.bx w)(hs:Slots n h β σ.sl σ.bx a):∃v,(rX a.tmps rv).run P w= .ok v w∧p.p h v:=by
 cases hr with
 | @tmp t p ht=>
  obtain⟨v,hv,ho,_⟩:=hs.slot _ _ ht;exact⟨v,by simp[rX,hv],ho⟩
 | @cell t b k T ps ht hb hty hk hlk=>
  obtain⟨v,hv,ho,_⟩:=hs.slot _ _ ht;have ho:v= .pointer (some ⟨β b,0,none⟩):=ho;subst ho;obtain⟨d,hd1,hd2,hd3⟩:=hty
  by_cases hps:ps=[]
  ·subst hps
   have hk:=Nat.eq_of_beq_eq_true hk;refine⟨.agg #[],?_,[],rfl,trivial⟩;have:=run_loadVar_mid (P:=P) w (β b) 0 T [] d (fun j v hj=>by simp at hj) hd1 hd2 (by rw[hd3];congr 1;simpa using hk.symm)
   simp[rX,hv,asAddr,this]
  obtain⟨_,_,vs,rest,T',hg,ha,_⟩:=hi.box0 _ _ hb hps hlk;have hl:=ha.length;have hk:=Nat.eq_of_beq_eq_true hk;refine⟨.agg vs.toArray,?_,vs,rfl,ha⟩;have:=run_loadVar_mid (P:=P) w (β b) 0 T vs d (tY hg (by simp)) hd1 hd2 (by rw[hd3];congr 1;omega)
  simp[rX,hv,asAddr,this]
theorem fJ(tmps:Array Value):results fn tmps=(do let vs←fn.results.mapM (rX tmps);pure (if h:vs.size=1 then vs[0] else .tuple vs)):=by
 unfold results;have:rX tmps=(fun| .tmp t=>pure (tmps.getD t undef)| .cell a t=>do loadVar t (←asAddr (tmps.getD a undef)):ResultVar→Sem Value):=by funext x;cases x<;>rfl
 rw[this];rfl
theorem wD{a:ResultVar}{p:Pd}(hf:fn.results= #[a])(h1:RV P σ a p)(hr:PLe p r):tL P fn σ r:=by
 intro En n w0 h0 c h β act w hi hs;obtain⟨v,hv,hp⟩:=h1.run hi hs;exact⟨v,by rw[fJ,hf];simp[hv],hr _ _ hp⟩
theorem lB{a b:ResultVar}{p q:Pd}(hf:fn.results= #[a,b])(h1:RV P σ a p)(h2:RV P σ b q)(hr:PLe (dK [p,q]) r):tL P fn σ r:=by
 intro En n w0 h0 c h β act w hi hs;obtain⟨v,hv,hp⟩:=h1.run hi hs;obtain⟨u,hu,hq⟩:=h2.run hi hs;exact⟨.tuple #[v,u],by rw[fJ,hf];simp[hv,hu],hr _ _ ⟨[v,u],rfl,hp,hq,trivial⟩⟩
theorem dZb{a b c:ResultVar}{p q s:Pd}(hf:fn.results= #[a,b,c])(h1:RV P σ a p)(h2:RV P σ b q)(h3:RV P σ c s)(hr:PLe (dK [p,q,s]) r):tL P fn σ r:=by
 intro En n w0 h0 c h β act w hi hs;obtain⟨v,hv,hp⟩:=h1.run hi hs;obtain⟨u,hu,hq⟩:=h2.run hi hs;obtain⟨x,hx,hxx⟩:=h3.run hi hs;exact⟨.tuple #[v,u,x],by rw[fJ,hf];simp[hv,hu,hx],hr _ _ ⟨[v,u,x],rfl,hp,hq,hxx,trivial⟩⟩
end
def pub(w w':World)(h:GH):GH:=fun b o=>if w.heap.size≤b then w'.cell? ⟨b,o,none⟩ else h b o
theorem bZC{w w':World}{h:GH}{b o:Nat}(hb:b<w.heap.size):pub w w' h b o=h b o:=by unfold pub;rw[if_neg oM]
theorem fZQ{w w':World}{h:GH}{b o:Nat}(hb:w.heap.size≤b):pub w w' h b o=w'.cell? ⟨b,o,none⟩:=by unfold pub;rw[if_pos hb]
theorem jR{h:GH}{w w':World}{r:Pd}{v:Value}(hh:Holds h w)(hb:Below w.heap.size w w')(hr:r.p (pub w w' h) v):rL h w r (.returned v) w':=by
 refine⟨v,pub w w' h,rfl,fun b o u e=>?_,fun b o u e=>?_,fun b o u e e0=>?_,hb,hr⟩
 ·rw[bZC (hh.lt e)];exact e
 ·rcases Nat.lt_or_ge b w.heap.size with hlt|hge
  ·rw[bZC hlt] at e
   rw[hb.cell (p:=⟨b,o,none⟩) hlt];exact hh b o u e
  ·rwa[fZQ hge] at e
 ·rcases Nat.lt_or_ge b w.heap.size with hlt|hge
  ·rw[bZC hlt,e0] at e;cases e
  ·exact hge
theorem AllV.one{h:GH}{p:Pd}{vs:List Value}(ha:AllV h [p] vs):∃v,vs=[v]∧p.p h v:=by
 cases vs with
 |nil=>exact ha.elim
 |cons v vs=>cases vs with
  |nil=>exact⟨v,rfl,ha.1⟩
  |cons=>exact ha.2.elim
theorem AllV.two{h:GH}{p q:Pd}{vs:List Value}(ha:AllV h [p,q] vs):∃v u,vs=[v,u]∧p.p h v∧q.p h u:=by
 cases vs with
 |nil=>exact ha.elim
 |cons v vs=>obtain⟨u,rfl,hu⟩:=AllV.one (p:=q) ha.2;exact⟨v,u,rfl,ha.1,hu⟩
theorem All2.two{h:GH}{p q:Pd}{vs:List Value}(ha:All2 h [p,q] vs):∃v u,vs=[v,u]∧p.p h v∧q.p h u∧v.oneCell'=true∧u.oneCell'=true:=by
 cases vs with
 |nil=>exact ha.elim
 |cons v vs=>cases vs with
  |nil=>exact ha.2.2.elim
  |cons u vs=>cases vs with
   |nil=>exact⟨v,u,rfl,ha.1,ha.2.2.1,ha.2.1,ha.2.2.2.1⟩
   |cons=>exact ha.2.2.2.2.elim
section
variable{P:Program}(w:World)
theorem iR(T:TypeId)(x y:Operand)(k:IntKind)(a b:Int):(do eqGuard .eql T x y (.int k a) (.int k b);Go.binOp .eql T (.int k a) (.int k b):Sem Value).run P w= .ok (.bool (a==b)) w:=by
 simp[eqGuard,Go.binOp,Op.intCmp]
theorem wT(T:TypeId)(x y:Operand)(k:IntKind)(a b:Int):(do eqGuard .neq T x y (.int k a) (.int k b);Go.binOp .neq T (.int k a) (.int k b):Sem Value).run P w= .ok (.bool (a !=b)) w:=by
 simp[eqGuard,Go.binOp,Op.intCmp]
theorem rY(T:TypeId)(x y:Operand)(k:IntKind)(a b:Int):(do eqGuard .lss T x y (.int k a) (.int k b);Go.binOp .lss T (.int k a) (.int k b):Sem Value).run P w= .ok (.bool (decide (a<b))) w:=by
 simp[eqGuard,Go.binOp,Op.intCmp]
theorem pU(T:TypeId)(x y:Operand)(k:IntKind)(a b:Int):(do eqGuard .leq T x y (.int k a) (.int k b);Go.binOp .leq T (.int k a) (.int k b):Sem Value).run P w= .ok (.bool (decide (a≤b))) w:=by
 simp[eqGuard,Go.binOp,Op.intCmp]
theorem nS(T:TypeId)(x y:Operand)(k:IntKind)(a b:Int):(do eqGuard .gtr T x y (.int k a) (.int k b);Go.binOp .gtr T (.int k a) (.int k b):Sem Value).run P w= .ok (.bool (decide (a>b))) w:=by
 simp[eqGuard,Go.binOp,Op.intCmp]
theorem bZ4(T:TypeId)(x y:Operand)(k:IntKind)(a b:Int):(do eqGuard .geq T x y (.int k a) (.int k b);Go.binOp .geq T (.int k a) (.int k b):Sem Value).run P w= .ok (.bool (decide (a≥b))) w:=by
 simp[eqGuard,Go.binOp,Op.intCmp]
theorem iZz(T:TypeId)(x y:Operand)(k:IntKind)(a b:Int):(do eqGuard .add T x y (.int k a) (.int k b);Go.binOp .add T (.int k a) (.int k b):Sem Value).run P w= .ok (.int k (k.wrap (a+b))) w:=by
 simp[eqGuard,Go.binOp,Op.intArith]
theorem eR(T:TypeId)(x y:Operand)(k:IntKind)(a b:Int):(do eqGuard .sub T x y (.int k a) (.int k b);Go.binOp .sub T (.int k a) (.int k b):Sem Value).run P w= .ok (.int k (k.wrap (a-b))) w:=by
 simp[eqGuard,Go.binOp,Op.intArith]
theorem cZQ(T:TypeId)(x y:Operand)(k:IntKind)(a b:Int):(do eqGuard .mul T x y (.int k a) (.int k b);Go.binOp .mul T (.int k a) (.int k b):Sem Value).run P w= .ok (.int k (k.wrap (a*b))) w:=by
 simp[eqGuard,Go.binOp,Op.intArith]
theorem xS{T:TypeId}(hT:P.underlying T=some .bool)(a b:Bool):(Op.equal T (.bool a) (.bool b)).run P w= .ok (a==b) w:=by
 show(Op.equalIn ((Op.maxDepth-1)+1) T (.bool a) (.bool b)).run P w=_
 rw[Op.equalIn];simp only[Sem.run_bind,run_underlying hT,Result.andThen_ok,Sem.run_pure]
theorem eS{T:TypeId}(hT:P.underlying T=some .bool)(x y:Operand)(a b:Bool):(do eqGuard .eql T x y (.bool a) (.bool b);Go.binOp .eql T (.bool a) (.bool b):Sem Value).run P w= .ok (.bool (a==b)) w:=by
 simp[eqGuard,Go.binOp,xS w hT]
theorem nR{T:TypeId}(hT:P.underlying T=some .bool)(x y:Operand)(a b:Bool):(do eqGuard .neq T x y (.bool a) (.bool b);Go.binOp .neq T (.bool a) (.bool b):Sem Value).run P w= .ok (.bool (a !=b)) w:=by
 simp[eqGuard,Go.binOp,xS w hT,bne]
theorem iZy(T:TypeId)(x y:Operand)(k:IntKind)(a b:Int)(hb:b≠0):(do eqGuard .quo T x y (.int k a) (.int k b);Go.binOp .quo T (.int k a) (.int k b):Sem Value).run P w= .ok (.int k (k.wrap (a.tdiv b))) w:=by
 simp[eqGuard,Go.binOp,Op.intDiv,hb]
theorem cR(T:TypeId)(x y:Operand)(k:IntKind)(a b:Int)(hb:b≠0):(do eqGuard .rem T x y (.int k a) (.int k b);Go.binOp .rem T (.int k a) (.int k b):Sem Value).run P w= .ok (.int k (a.tmod b)) w:=by
 simp[eqGuard,Go.binOp,Op.intDiv,hb]
theorem jD(T:TypeId)(x y:Operand)(k k':IntKind)(a b:Int)(hb:0≤b):(do eqGuard .shl T x y (.int k a) (.int k' b);Go.binOp .shl T (.int k a) (.int k' b):Sem Value).run P w= .ok (.int k (k.wrap (a*2^(min b.toNat k.bits)))) w:=by
 simp[eqGuard,Go.binOp,Op.shift,Int.not_lt.2 hb]
theorem dF(T:TypeId)(x y:Operand)(k k':IntKind)(a b:Int)(hb:0≤b):(do eqGuard .shr T x y (.int k a) (.int k' b);Go.binOp .shr T (.int k a) (.int k' b):Sem Value).run P w= .ok (.int k (a.fdiv (2^(min b.toNat k.bits)))) w:=by
 simp[eqGuard,Go.binOp,Op.shift,Int.not_lt.2 hb]
theorem rZ(T:TypeId)(x y:Operand)(k:IntKind)(a b:Int):(do eqGuard .and T x y (.int k a) (.int k b);Go.binOp .and T (.int k a) (.int k b):Sem Value).run P w= .ok (.int k (k.wrap (BitVec.ofInt k.bits a&&&BitVec.ofInt k.bits b).toNat)) w:=by
 simp[eqGuard,Go.binOp,Op.intBits]
theorem lK(T:TypeId)(x y:Operand)(k:IntKind)(a b:Int):(do eqGuard .or T x y (.int k a) (.int k b);Go.binOp .or T (.int k a) (.int k b):Sem Value).run P w= .ok (.int k (k.wrap (BitVec.ofInt k.bits a|||BitVec.ofInt k.bits b).toNat)) w:=by
 simp[eqGuard,Go.binOp,Op.intBits]
theorem tQ{S T:TypeId}{d:TypeDesc}{k:IntKind}(hS:P.underlying S=some d)(hT:P.underlying T=some (.int k))(k':IntKind)(a:Int):(convert S T (.int k' a)).run P w= .ok (.int k (k.wrap a)) w:=by
 simp[convert,run_underlying hS,run_underlying hT,Conv.intToInt]
theorem dV{k:IntKind}{a b:Int}(h:a=b):Value.int k a= .int k b:=by rw[h]
theorem dH{a b:Bool}(h:a=b):Value.bool a= .bool b:=by rw[h]
theorem lZm(b:Bool):(Op.unary .not (.bool b)).run P w= .ok (.bool (!b)) w:=by simp[Op.unary]
theorem fO(k:IntKind)(a:Int):(Op.unary .neg (.int k a)).run P w= .ok (.int k (k.wrap (-a))) w:=by simp[Op.unary,Op.intArith]
end
end
section
open Go.RowKit
class CRow(P:Program)(T:TypeId)(k:outParam Nat):Prop where
 ok:eZp P T k
class COne(P:Program)(T:TypeId):Prop where
 ok:kZ3 P T
class CField(P:Program)(S:TypeId)(f:Nat)(off:outParam Nat):Prop where
 ok:gZH P S f off
class CFieldT(P:Program)(S:TypeId)(f:Nat)(off:outParam Nat)(T:outParam TypeId):Prop where
 ok:gZG P S f off T
class CZero(P:Program)(T:TypeId)(vs:outParam (List Value)):Prop where
 ok:gR P T vs
class CStruct(P:Program)(T:TypeId)(pl:outParam (List (Nat×Nat)))(zs:outParam (List Value)):Prop where
 ok:eZq P T pl zs
class CBody(P:Program)(f:FuncId):Prop where
 ok:Body P f
class CMix(P:Program):Prop where
 ok:P.follows .mixedOrders=true
class CBool(P:Program)(T:TypeId):Prop where
 ok:P.underlying T=some .bool
class CInt(P:Program)(T:TypeId)(k:outParam IntKind):Prop where
 ok:P.underlying T=some (.int k)
class CSlice(P:Program)(T:TypeId)(E:outParam TypeId):Prop where
 ok:P.underlying T=some (.slice E)
class CLen(p:Pd)(n:outParam Nat):Prop where
 ok:∀h v,p.p h v→∃a cap,v= .slice a n cap
class CPart(p:Pd)(ps:outParam (List Pd)):Prop where
 ok:(C1 p∧ps=[p])∨p=cD ps
instance(priority:=low)(p:Pd)[h:C1 p]:CPart p [p]:=⟨.inl ⟨h,rfl⟩⟩
instance(ps:List Pd):CPart (cD ps) ps:=⟨.inr rfl⟩
theorem Part.c{sl:Sl}{x:Operand}{p:Pd}{ps:List Pd}[h:CPart p ps](hx:osd sl x=some (.one p)):Part sl x ps:=by
 rcases h.ok with⟨h1,rfl⟩|rfl
 ·exact .inl ⟨p,h1,hx,rfl⟩
 ·exact .inr hx
def RG(P:Program)(En:Ev)(n:Nat)(full rest:List Oper)(acc:List Eff)(K:Exit→St→Prop)(σ:St):Prop:=
 ∃es τ,Chain P En n full.toArray rest σ es τ∧jI n full (acc.reverse++es)=true∧K .normal τ
section
variable{P:Program}{En:Ev}{n:Nat}{w0:World}{h0:GH}{c:Cx}{K:Exit→St→Prop}{σ:St}{full rest:List Oper}{acc:List Eff}{sl:Sl}{bx:Bx}
theorem WpD.reg[hm:CMix P]{id:Nat}{draw:Bool}{l:List Oper}(h:RG P En n l l [] K σ):WpD P En n w0 h0 c (.region id l.toArray draw) K σ:=by
 obtain⟨es,τ,h1,h2,h3⟩:=h;exact WpD.region hm.ok h1 (by simpa using h2) h3
theorem WpD.condT{cc:Operand}{x y:Code}(hc:osd σ.sl cc=some (.one (ex (.bool true))))(h:WpD P En n w0 h0 c x K σ):WpD P En n w0 h0 c (.cond cc x y) K σ:=WpD.cond hc (fun _=>h) (fun h=>Bool.noConfusion h)
theorem WpD.condF{cc:Operand}{x y:Code}(hc:osd σ.sl cc=some (.one (ex (.bool false))))(h:WpD P En n w0 h0 c y K σ):WpD P En n w0 h0 c (.cond cc x y) K σ:=WpD.cond hc (fun h=>Bool.noConfusion h) (fun _=>h)
theorem WpD.cut{α:Type}{x y:Code}(J:α→St)(h:WpD P En n w0 h0 c x (aZm (fun τ=>∃i,Sub τ (J i)) K) σ)(h2:∀i,WpD P En n w0 h0 c y K (J i)):WpD P En n w0 h0 c (.seq x y) K σ:=by
 refine WpD.seq fun Q a w hg hQ=>h Q a w hg fun e τ a' w' hk hg'=>?_;cases e with
 |normal=>
  obtain⟨i,hi⟩:=hk;exact hQ .normal (J i) a' w' (h2 i) (hi _ _ _ _ _ _ _ hg')
 |exit i=>exact hQ _ τ a' w' hk hg'
 |goto i=>exact hQ _ τ a' w' hk hg'
 |ret=>exact hQ _ τ a' w' hk hg'
 |panic i=>exact hQ _ τ a' w' hk hg'
 |outgrown=>exact hQ _ τ a' w' hk hg'
theorem RG.nil(hok:jI n full acc.reverse=true)(hk:K .normal σ):RG P En n full [] acc K σ:=⟨[],σ,.nil σ,by simpa using hok,hk⟩
theorem RG.cons{o:Oper}{e:Eff}(h:LT P En n full.toArray o σ.sl σ.bx e)(t:RG P En n full rest (e::acc) K (kA σ o e)):RG P En n full (o::rest) acc K σ:=by
 obtain⟨es,τ,h1,h2,h3⟩:=t;exact⟨e::es,τ,.cons h h1,by simpa using h2,h3⟩
theorem RG.S0{d:Nat}{op:Op}{ty:TypeId}{pos:String}{after:Array Edge}{guard:Option (Nat×Bool)}{sd:SD}{rb:List Nat}(h:LT P En n full.toArray ⟨some d,op,ty,pos,after,guard⟩ sl bx ⟨sd,rb,[]⟩)
  (t:RG P En n full rest (⟨sd,rb,[]⟩::acc) K ⟨(d,sd)::sl,bx⟩):RG P En n full (⟨some d,op,ty,pos,after,guard⟩::rest) acc K ⟨sl,bx⟩:=RG.cons (σ:=⟨sl,bx⟩) h t
theorem RG.S1{d:Nat}{op:Op}{ty:TypeId}{pos:String}{after:Array Edge}{guard:Option (Nat×Bool)}{sd:SD}{rb:List Nat}{x:Nat×List Pd}(h:LT P En n full.toArray ⟨some d,op,ty,pos,after,guard⟩ sl bx ⟨sd,rb,[x]⟩)
  (t:RG P En n full rest (⟨sd,rb,[x]⟩::acc) K ⟨(d,sd)::sl,x::bx⟩):RG P En n full (⟨some d,op,ty,pos,after,guard⟩::rest) acc K ⟨sl,bx⟩:=RG.cons (σ:=⟨sl,bx⟩) h t
theorem RG.N1{op:Op}{ty:TypeId}{pos:String}{after:Array Edge}{guard:Option (Nat×Bool)}{sd:SD}{rb:List Nat}{x:Nat×List Pd}(h:LT P En n full.toArray ⟨none,op,ty,pos,after,guard⟩ sl bx ⟨sd,rb,[x]⟩)
  (t:RG P En n full rest (⟨sd,rb,[x]⟩::acc) K ⟨sl,x::bx⟩):RG P En n full (⟨none,op,ty,pos,after,guard⟩::rest) acc K ⟨sl,bx⟩:=RG.cons (σ:=⟨sl,bx⟩) h t
theorem RG.SW{d:Nat}{op:Op}{ty:TypeId}{pos:String}{after:Array Edge}{guard:Option (Nat×Bool)}{sd:SD}{rb:List Nat}{wb:Bx}{bx':Bx}(h:LT P En n full.toArray ⟨some d,op,ty,pos,after,guard⟩ sl bx ⟨sd,rb,wb⟩)(hb:wb++bx=bx')
  (t:RG P En n full rest (⟨sd,rb,wb⟩::acc) K ⟨(d,sd)::sl,bx'⟩):RG P En n full (⟨some d,op,ty,pos,after,guard⟩::rest) acc K ⟨sl,bx⟩:=by subst hb;exact RG.cons (σ:=⟨sl,bx⟩) h t
theorem RG.NW{op:Op}{ty:TypeId}{pos:String}{after:Array Edge}{guard:Option (Nat×Bool)}{sd:SD}{rb:List Nat}{wb:Bx}{bx':Bx}(h:LT P En n full.toArray ⟨none,op,ty,pos,after,guard⟩ sl bx ⟨sd,rb,wb⟩)(hb:wb++bx=bx')
  (t:RG P En n full rest (⟨sd,rb,wb⟩::acc) K ⟨sl,bx'⟩):RG P En n full (⟨none,op,ty,pos,after,guard⟩::rest) acc K ⟨sl,bx⟩:=by subst hb;exact RG.cons (σ:=⟨sl,bx⟩) h t
section
variable{dst:Option Tmp}{ty:TypeId}{pos:String}{after:Array Edge}{guard:Option (Nat×Bool)}
theorem dM{T:TypeId}{x:Operand}{b k o:Nat}{ps:List Pd}[ht:CRow P T k](hx:osd sl x=some (.ptr b o))(hb:aB bx b=some ps)(hk:Nat.ble (o+k) ps.length=true){qs:List Pd}(hq:(ps.drop o).take k=qs)(hl:lk b=false:=by rfl):
  RT P En n ⟨dst,.load T x,ty,pos,after,guard⟩ sl bx ⟨.one (cD qs),[b],[]⟩:=by subst hq;exact xX o hx hb ht.ok hk hl
theorem aX{T:TypeId}{x:Operand}{b o:Nat}{ps:List Pd}{p:Pd}[ht:COne P T](hx:osd sl x=some (.ptr b o))(hb:aB bx b=some ps)(hp:ps[o]? =some p)(hl:lk b=false:=by rfl):
  RT P En n ⟨dst,.load T x,ty,pos,after,guard⟩ sl bx ⟨.one p,[b],[]⟩:=cZU o hx hb ht.ok hp hl
theorem mU{T:TypeId}{x y:Operand}{b k o:Nat}{ps qs:List Pd}[ht:CRow P T k](hx:osd sl x=some (.ptr b o))(hy:osd sl y=some (.one (cD qs)))(hb:aB bx b=some ps)(hq:Nat.beq qs.length k=true)(hk:Nat.ble (o+k) ps.length=true){rs:List Pd}(hr:eW ps o qs=rs)(hpos:Nat.blt 0 k=true:=by rfl)(hl:lk b=false:=by rfl):
  RT P En n ⟨dst,.store T x y,ty,pos,after,guard⟩ sl bx ⟨.one (ex undef),[b],[(b,rs)]⟩:=by subst hr;exact aZ1 o hx hy hb ht.ok hq hk hpos hl
theorem kI{T:TypeId}{x y:Operand}{b o:Nat}{ps:List Pd}{q:Pd}[COne P T][C1 q](hx:osd sl x=some (.ptr b o))(hy:osd sl y=some (.one q))(hb:aB bx b=some ps)(hk:Nat.blt o ps.length=true){rs:List Pd}(hr:eW ps o [q]=rs)(hl:lk b=false:=by rfl):
  RT P En n ⟨dst,.store T x y,ty,pos,after,guard⟩ sl bx ⟨.one (ex undef),[b],[(b,rs)]⟩:=by subst hr;exact tS o hx hy hb COne.ok hk hl
theorem lL{S:TypeId}{x:Operand}{f off b o:Nat}[hf:CField P S f off](hx:osd sl x=some (.ptr b o)){o':Nat}(ho:o+off=o'):RT P En n ⟨dst,.fieldAddr S x f,ty,pos,after,guard⟩ sl bx ⟨.ptr b o',[],[]⟩:=by subst ho;exact bZ6 hx hf.ok
theorem gZW{S T:TypeId}{x:Operand}{f off k:Nat}{ps:List Pd}[hf:CFieldT P S f off T][ht:CRow P T k](hx:osd sl x=some (.one (cD ps))){qs:List Pd}(hq:(ps.drop off).take k=qs):RT P En n ⟨dst,.field S x f,ty,pos,after,guard⟩ sl bx ⟨.one (cD qs),[],[]⟩:=by subst hq;exact gZZ hx hf.ok ht.ok
theorem aU{T:TypeId}{xs:List (Nat×Operand)}{ps:List (Nat×List Pd)}{pl:List (Nat×Nat)}{zs:List Value}{rs:List Pd}[ht:CStruct P T pl zs](hp:mH sl xs ps)(hf:pG (fun(i:Nat)=>pl[i]?) (zs.map ex) ps=some rs):
  RT P En n ⟨dst,.build T xs.toArray,ty,pos,after,guard⟩ sl bx ⟨.one (cD rs),[],[]⟩:=iZ3 ht.ok hp hf
theorem xW{d:Nat}{T:TypeId}{vs:List Value}[hz:CZero P T vs](hd:Nat.blt d 400=true)(hn:aB bx d=none){ps:List Pd}(hp:vs.map ex=ps):RT P En n ⟨some d,.alloc T,ty,pos,after,guard⟩ sl bx ⟨.ptr d 0,[],[(d,ps)]⟩:=by subst hp;exact iZ4 d hz.ok (Nat.le_of_ble_eq_true hd) hn
theorem lZq{d:Nat}{T:TypeId}{x:Operand}{ps:List Pd}(hx:osd sl x=some (.one (cD ps)))(hd:Nat.blt d 400=true)(hn:aB bx d=none):RT P En n ⟨some d,.box T x,ty,pos,after,guard⟩ sl bx ⟨.ptr d 0,[],[(d,ps)]⟩:=lZs d hx (Nat.le_of_ble_eq_true hd) hn
theorem aQ{f:FuncId}{xs:List Operand}{ats:Array TypeId}{ps:List Pd}{r:Pd}[hb:CBody P f](hf:Fn P En f ps r)(ha:args sl xs ps):
  RT P En n ⟨dst,.call ⟨.value (.func f),xs.toArray,ats⟩,ty,pos,after,guard⟩ sl bx ⟨.one r,[],[]⟩:=lZr hf hb.ok ha
theorem dQ{x:Operand}{T E:TypeId}{p:Pd}{k:Nat}[hl:CLen p k](hx:osd sl x=some (.one p))(ht:P.underlying T=some (.slice E)):RT P En n ⟨dst,.call ⟨.builtin .len, #[x], #[T]⟩,ty,pos,after,guard⟩ sl bx ⟨.one (ex (.int .i64 k)),[],[]⟩:=
 RT.pure fun ρ h β bx' H=>by
  obtain⟨a,cap,hv⟩:=hl.ok h _ (H x (by simp[Op.operands,Call.operands]) _ hx).1
  refine⟨.int .i64 k,fun w _=>?_,rfl,trivial⟩;simp[execOp,resolve,invoke,builtin,Builtin.len_,hv,run_underlying ht,goInt]
end
section
variable{ty:TypeId}{pos:String}{after:Array Edge}{op:Op}{sd:SD}{rb:List Nat}{y:Nat×List Pd}{d:Nat}{x:Operand}
theorem jS(h:RT P En n ⟨some d,op,ty,pos,after,none⟩ sl bx ⟨sd,rb,[]⟩)(t:RG P En n full rest (⟨sd,rb,[]⟩::acc) K ⟨(d,sd)::sl,bx⟩):RG P En n full (⟨some d,op,ty,pos,after,none⟩::rest) acc K ⟨sl,bx⟩:=RG.S0 (LT.plain rfl h) t
theorem jT(h:RT P En n ⟨some d,op,ty,pos,after,none⟩ sl bx ⟨sd,rb,[y]⟩)(t:RG P En n full rest (⟨sd,rb,[y]⟩::acc) K ⟨(d,sd)::sl,y::bx⟩):RG P En n full (⟨some d,op,ty,pos,after,none⟩::rest) acc K ⟨sl,bx⟩:=RG.S1 (LT.plain rfl h) t
theorem jO(h:RT P En n ⟨none,op,ty,pos,after,none⟩ sl bx ⟨sd,rb,[y]⟩)(t:RG P En n full rest (⟨sd,rb,[y]⟩::acc) K ⟨sl,y::bx⟩):RG P En n full (⟨none,op,ty,pos,after,none⟩::rest) acc K ⟨sl,bx⟩:=RG.N1 (LT.plain rfl h) t
theorem jm(hx:osd sl x=some sd)(t:RG P En n full rest (⟨sd,[],[]⟩::acc) K ⟨(d,sd)::sl,bx⟩):RG P En n full (⟨some d,.move x,ty,pos,after,none⟩::rest) acc K ⟨sl,bx⟩:=RG.S0 (LT.plain rfl (eM hx)) t
theorem ja(hx:osd sl x=some sd)(t:RG P En n full rest (⟨sd,[],[]⟩::acc) K ⟨(d,sd)::sl,bx⟩):RG P En n full (⟨some d,.assign x,ty,pos,after,none⟩::rest) acc K ⟨sl,bx⟩:=RG.S0 (LT.plain rfl (tT hx)) t
theorem js{a b:Code}(h:WpD P En n w0 h0 c a (aZm (WpD P En n w0 h0 c b K) K) σ):WpD P En n w0 h0 c (.seq a b) K σ:=WpD.seq h
theorem jb{id:Nat}{co:Code}(h:WpD P En n w0 h0 c co (fZb id K) σ):WpD P En n w0 h0 c (.block id co) K σ:=WpD.block h
theorem jr[CMix P]{id:Nat}{draw:Bool}{l:List Oper}(h:RG P En n l l [] K σ):WpD P En n w0 h0 c (.region id l.toArray draw) K σ:=WpD.reg h
end
section
variable{s:Sl}{bs:Bx}{l:Sl}{t:Nat}{sd:SD}{p:Pd}{m:Bx}{ps:List Pd}
theorem jv(h:aB s t=some (.one p))(r:mS s bs l):mS s bs ((t,.one p)::l):=⟨⟨_,h,PLe.refl _⟩,trivial,r⟩
theorem SLe.rfl'(sd:SD):SLe sd sd:=by cases sd with
 |one p=>exact PLe.refl p
 |ptr b o=>exact rfl
 |own b o l k=>exact rfl
 |app b k l=>exact rfl
 |clo f b=>exact rfl
 |pin b x=>exact rfl
 |gen g=>exact rfl
theorem jw(h:aB s t=some sd)(k:sd.live bs)(r:mS s bs l):mS s bs ((t,sd)::l):=⟨⟨_,h,SLe.rfl' sd⟩,k,r⟩
theorem jx{b k:Nat}(h:aB s t=some (.one (ex (.slice none 0 0))))(q:(SD.app b k 0).live bs)(r:mS s bs l):mS s bs ((t,.app b k 0)::l):=⟨⟨_,h,rfl,PLe.refl _⟩,q,r⟩
theorem jy(h:aB m t=some ps){l:Bx}(r:subBx m l):subBx m ((t,ps)::l):=⟨.inl ⟨_,h,PsLe.refl _⟩,r⟩
theorem jz{l:Bx}(r:subBx m l):subBx m ((t,[])::l):=⟨.inr rfl,r⟩
theorem js0{bx:Bx}{b:Nat}{ps:List Pd}(h:aB bx b=some ps):aB bx b≠none:=by rw[h];simp
end
end
end
end Go.Proofs.YtfmjdlogjmofbaaGreatDoor
namespace Go.Proofs.YtfmjdlogjmofbaaGreatDoor
open Go.RowKit
theorem cB {f : FuncId} {fn : Func} (h : PZ.funcs[f]? = some fn) (h1 : fn.body.isNone = false := by rfl) (h2 : (fn.name == "runtime.NumGoroutine") = false := by rfl) : CBody PZ f := ⟨⟨fn, h, h1, h2⟩⟩
abbrev i6(z:Int):Pd:=ex (.int .i64 z)
theorem uG{p:Prop}(h:p:=by unfold grows;omega):p:=h
theorem aG{p:Prop}(h:p:=by first|assumption|(unfold grows;omega)|(unfold grows;dsimp only;omega)):p:=h
theorem kO{p q:Prop}(k:p)(h:p→q:=by intro k;(repeat(first|apply js|apply jb));exact k):q:=h k
theorem kR{p q:Prop}(k:p)(h:p→q:=by intro k;(repeat(first|apply js|apply jb));refine jr ?_;exact k):q:=h k
theorem sJ{p:Prop}(h:p:=by repeat(first|exact trivial|refine jV rfl ?_|refine jv rfl ?_|refine jy rfl ?_|refine jw rfl (js0 rfl) ?_|refine jz ?_|refine jw rfl ⟨js0 rfl,js0 rfl⟩ ?_|refine jx rfl ⟨js0 rfl,js0 rfl⟩ ?_)):p:=h
theorem pK{p:Prop}(h:p:=by exact⟨_,rfl,PLe.refl _⟩):p:=h
theorem pQ{p:Prop}(h:p:=by exact⟨_,rfl,PsLe.refl _⟩):p:=h
theorem pM{p:Prop}(h:p:=by exact⟨_,rfl,cJ (by omega) (by omega),rfl,js0 rfl⟩):p:=h
theorem bK{p:Prop}(h:p:=by exact BMv.keep rfl (by omega) (by omega) (by unfold grows;omega) rfl (PsLe.refl _)):p:=h
theorem wO{z:Int}(h1: -9223372036854775808≤z:=by omega)(h2:z<9223372036854775808:=by omega):IntKind.i64.wrap z=z:=by rw[IntKind.wrap_i64];omega
section
variable{P:Program}{En:Ev}{n:Nat}{sl:Sl}{bx:Bx}{dst:Option Tmp}{ty:TypeId}{pos:String}{after:Array Edge}{guard:Option (Nat×Bool)}{T T':TypeId}{x y:Operand}{k:IntKind}{u v:Int}{b:Bool}
theorem bVl(hx:osd sl x=some (.one (ex (.int k u))))(hy:osd sl y=some (.one (ex (.int k v))))(h:decide (u<v)=b):RT P En n ⟨dst,.binOp .lss T x y T',ty,pos,after,guard⟩ sl bx ⟨.one (ex (.bool b)),[],[]⟩:=aH hx hy (fun w=>rY w _ _ _ _ _ _) (dH h)
theorem bVe(hx:osd sl x=some (.one (ex (.int k u))))(hy:osd sl y=some (.one (ex (.int k v))))(h:decide (u≤v)=b):RT P En n ⟨dst,.binOp .leq T x y T',ty,pos,after,guard⟩ sl bx ⟨.one (ex (.bool b)),[],[]⟩:=aH hx hy (fun w=>pU w _ _ _ _ _ _) (dH h)
theorem bVg(hx:osd sl x=some (.one (ex (.int k u))))(hy:osd sl y=some (.one (ex (.int k v))))(h:decide (u>v)=b):RT P En n ⟨dst,.binOp .gtr T x y T',ty,pos,after,guard⟩ sl bx ⟨.one (ex (.bool b)),[],[]⟩:=aH hx hy (fun w=>nS w _ _ _ _ _ _) (dH h)
theorem bVh(hx:osd sl x=some (.one (ex (.int k u))))(hy:osd sl y=some (.one (ex (.int k v))))(h:decide (u≥v)=b):RT P En n ⟨dst,.binOp .geq T x y T',ty,pos,after,guard⟩ sl bx ⟨.one (ex (.bool b)),[],[]⟩:=aH hx hy (fun w=>bZ4 w _ _ _ _ _ _) (dH h)
theorem bVq(hx:osd sl x=some (.one (ex (.int k u))))(hy:osd sl y=some (.one (ex (.int k v))))(h:(u==v)=b):RT P En n ⟨dst,.binOp .eql T x y T',ty,pos,after,guard⟩ sl bx ⟨.one (ex (.bool b)),[],[]⟩:=aH hx hy (fun w=>iR w _ _ _ _ _ _) (dH h)
theorem bVn(hx:osd sl x=some (.one (ex (.int k u))))(hy:osd sl y=some (.one (ex (.int k v))))(h:(u !=v)=b):RT P En n ⟨dst,.binOp .neq T x y T',ty,pos,after,guard⟩ sl bx ⟨.one (ex (.bool b)),[],[]⟩:=aH hx hy (fun w=>wT w _ _ _ _ _ _) (dH h)
end
end Go.Proofs.YtfmjdlogjmofbaaGreatDoor

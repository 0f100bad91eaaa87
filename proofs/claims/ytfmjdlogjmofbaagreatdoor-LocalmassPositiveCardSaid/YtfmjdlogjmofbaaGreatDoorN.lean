/- Integers az a sign and limbs. For any program. -/
import Derived.Test.YtfmjdlogjmofbaaGreatDoorTc
import Derived.WalkKit
import Derived.WalkSpells
import Derived.WalkLawsBesides
import Derived.Deep.LoopGhost
import Derived.Lib.LaidTab
import Derived.Lib.Hide
import Derived.IntWalk
import Derived.Test.YtfmjdlogjmofbaaGreatDoorProg
import Derived.Deep.QuietTactic
import Derived.BigQuiet
import Derived.Deep.RegionHeld3
import Derived.Laws.BitsAllLaws
import Derived.Test.YtfmjdlogjmofbaaGreatDoorJ
import Derived.Test.YtfmjdlogjmofbaaGreatDoorV
import Derived.Test.YtfmjdlogjmofbaaGreatDoorW
set_option maxHeartbeats 4000000
set_option maxRecDepth 3000
namespace Go.Proofs.YtfmjdlogjmofbaaGreatDoor
section
open Go.RowKit Limb
def aT(s:Bool)(x:Nat):Int:=if s then-(x:Int) else(x:Int)
def zv(s:Bool)(l:List Nat):Int:=aT s (val l)
def zR(s:Bool)(l:List Nat):Pd:=cD [ex (.bool s),mag l]
def zC(z:Int):Pd:=zR (decide (z<0)) (aE z.natAbs)
instance(s:Bool)(l:List Nat):CPart (zR s l) [ex (.bool s),mag l]:=⟨.inr rfl⟩
instance(z:Int):CPart (zC z) [ex (.bool (decide (z<0))),mag (aE z.natAbs)]:=⟨.inr rfl⟩
def cV(z:Int):List Pd:=[ex (.bool (decide (z<0))),mag (aE z.natAbs)]
theorem eP(z:Int):zv (decide (z<0)) (aE z.natAbs)=z:=by
 unfold zv aT;rw[aN]
 by_cases h:z<0
 ·rw[decide_eq_true h];simp;omega
 ·rw[decide_eq_false h];simp;omega
theorem eZx:PLe (cD [ex (.bool false),ex (.slice none 0 0)]) (zC 0):=by
 rintro h v ⟨vs,rfl,ha⟩;obtain⟨u,x,rfl,hu,hx⟩:=ha.two;exact⟨_,rfl,hu,hx.2.1,pX _ _ hx.1,hx.2.2,trivial⟩
theorem rW(s:Bool)(x:Nat):(aT s x).natAbs=x:=by unfold aT;cases s<;>simp
theorem bZn(s:Bool)(l:List Nat):(zv s l).natAbs=val l:=rW s _
theorem iZo{s:Bool}{x:Nat}(hx:x≠0):decide (aT s x<0)=s:=by unfold aT;cases s<;>simp<;>omega
theorem oZi{s:Bool}{x:Nat}(hx:x≠0):zC (aT s x)=cD [ex (.bool s),mag (aE x)]:=by
 unfold zC zR;rw[iZo hx,rW]
theorem uN(n:Nat):(((aE n).length:Int)==0)=decide (n=0):=by
 by_cases h:n=0
 ·subst h;rfl
 ·rw[decide_eq_false h,dZ h];simp;omega
theorem eK{l:List Nat}{k:Nat}(h:l.length≤k)(hl:Lm l):(aE (val l)).length≤k:=Nat.le_trans (cN (fE hl)) h
theorem cZP(s t:Bool)(x y:Nat):aT s x*aT t y=aT (s !=t) (x*y):=by
 unfold aT;cases s<;>cases t<;>simp[Int.neg_mul,Int.mul_neg]
theorem kW{X Y q r:Int}(hY:Y≠0)(h:X=Y*q+r)(h0:0≤r)(h1:r<Y.natAbs):X/Y=q∧X%Y=r:=by
 have hm:X%Y=r:=by
  rw[h,Int.mul_add_emod_self_left];rcases Int.lt_or_lt_of_ne hY with hn|hp
  ·rw[←Int.emod_neg];exact Int.emod_eq_of_lt h0 oM
  ·exact Int.emod_eq_of_lt h0 oM
 refine⟨?_,hm⟩;have h2:=Int.mul_ediv_add_emod X Y;rw[hm,h] at h2;have h3:Y*((Y*q+r)/Y)=Y*q:=oM;rw[h];exact Int.eq_of_mul_eq_mul_left hY h3
theorem iZu{s s':Bool}{x y:Nat}(hy:y≠0)(h:s=false∨x%y=0):aT s x/aT s' y=aT (s !=s') (x/y)∧aT s x%aT s' y=((x%y:Nat):Int):=by
 have e:=Nat.div_add_mod x y;have hlt:=Nat.mod_lt x (Nat.pos_of_ne_zero hy);have ec:(x:Int)=(y:Int)*((x/y:Nat):Int)+((x%y:Nat):Int):=by exact_mod_cast e.symm
 refine kW (by unfold aT;split<;>omega) ?_ oM (by rw[rW];omega)
 unfold aT;generalize((x/y:Nat):Int)=q at*;rcases h with rfl|h
 ·generalize((x%y:Nat):Int)=r at*
  cases s'<;>simp[Int.neg_mul,Int.mul_neg]<;>omega
 ·rw[h] at ec ⊢
  cases s<;>cases s'<;>simp[Int.neg_mul,Int.mul_neg]<;>omega
theorem iZv{s':Bool}{x y:Nat}(hy:y≠0)(h:x%y≠0):aT true x/aT s' y=aT (!s') (x/y+1)∧aT true x%aT s' y=((y-x%y:Nat):Int):=by
 have e:=Nat.div_add_mod x y;have hlt:=Nat.mod_lt x (Nat.pos_of_ne_zero hy);have ec:(x:Int)=(y:Int)*((x/y:Nat):Int)+((x%y:Nat):Int):=by exact_mod_cast e.symm
 refine kW (by unfold aT;split<;>omega) ?_ oM (by rw[rW];omega)
 rw[Int.ofNat_sub oM];unfold aT;rw[show((x/y+1:Nat):Int)=((x/y:Nat):Int)+1 from rfl]
 generalize((x/y:Nat):Int)=q at*;generalize((x%y:Nat):Int)=r at*;cases s'<;>simp[Int.neg_mul,Int.mul_neg,Int.mul_add]<;>omega
end
section
open Go.RowKit
theorem tJ(b o j:Nat):(⟨b,o,none⟩:Addr).add j=⟨b,o+j,none⟩:=by
 unfold Addr.add
 by_cases h:j=0
 ·subst h;rfl
 ·rw[if_neg h]
theorem hZA(w:World)(b:Nat)(hb:b=w.heap.size)(xs:List Value)(t:TypeId):∀j u,xs[j]? =some u→(w.alloc (.cells xs.toArray t)).cell? ((⟨b,0,none⟩:Addr).add j)=some u:=by
 intro j u h;subst hb;rw[tJ,World.cell?_alloc_new];simpa using h
def Rd(w:World)(v:Value)(n:Nat)(xs:List Value):Prop:=
 ∃a cap,v= .slice a n cap∧n≤cap∧(cap≤maxLen∧(a=none→cap=0))∧(xs≠[]→∃b off,a=some ⟨b,off,none⟩∧b<w.heap.size∧∀j u,xs[j]? =some u→w.cell? ⟨b,off+j,none⟩=some u)
theorem Rd.below{w w':World}{v:Value}{n:Nat}{xs:List Value}(h:Rd w v n xs)(hb:Below w.heap.size w w'):Rd w' v n xs:=by
 obtain⟨a,cap,rfl,h1,h2,h3⟩:=h;refine⟨a,cap,rfl,h1,h2,fun hx=>?_⟩;obtain⟨b,off,rfl,hlt,hc⟩:=h3 hx;refine⟨b,off,rfl,Nat.lt_of_lt_of_le hlt hb.size,fun j u hj=>?_⟩;rw[hb.cell (p:=⟨b,off+j,none⟩) hlt];exact hc j u hj
theorem Rd.of_owns{w:World}{base e size:Nat}{v:Value}{n:Nat}{xs:List Value}(h:w.ownsRow base e size v n xs):Rd w v n xs:=by
 have hc:= @World.ownsRow.cells w base e size v n xs h;obtain⟨h1,h2⟩:=h;rcases h2 with⟨rfl,rfl⟩|⟨g,cap,cur,rfl,_,hg,hn,hm,hs,ht⟩
 ·refine⟨none,0,rfl,oM,⟨by unfold maxLen;omega,fun _=>rfl⟩,fun hx=>?_⟩
  rw[Nat.zero_mul] at h1;exact absurd (List.length_eq_zero_iff.1 h1) hx
 ·refine⟨some ⟨g,0,none⟩,cap,rfl,hn,⟨hm,fun h=>by cases h⟩,fun _=>⟨g,0,rfl,(Array.getElem?_eq_some_iff.1 hg).1,fun j u hj=>?_⟩⟩
  have:=hc rfl j u hj;rwa[tJ] at this
end
section
open Go.RowKit Limb
theorem lV{k:IntKind}{a b:Int}(h:a=b):Ending.returned (.int k a)= .returned (.int k b):=by rw[h]
def bJ(l:List Nat):List Value:=l.map fun x=> .int .u32 (x:Nat)
theorem gZ(l:List Nat):(bJ l).length=l.length:=by simp[bJ]
theorem mP{l:List Nat}{i x:Nat}(h:l[i]? =some x):(bJ l)[i]? =some (.int .u32 (x:Nat)):=by simp[bJ,h]
theorem uD(a b:List Nat):bJ (a++b)=bJ a++bJ b:=by simp[bJ]
theorem aZl(l:List Nat):∀u∈bJ l,u.oneCell'=true:=by
 intro u hu;obtain⟨x,_,rfl⟩:=List.mem_map.1 hu;rfl
def Mg(w:World)(v:Value)(l:List Nat):Prop:=Rd w v l.length (bJ l)∧Lm l
theorem Mg.below{w w':World}{v:Value}{l:List Nat}(h:Mg w v l)(hb:Below w.heap.size w w'):Mg w' v l:=⟨h.1.below hb,h.2⟩
theorem Mg.form{w:World}{v:Value}{l:List Nat}(h:Mg w v l):∃a cap,v= .slice a l.length cap∧l.length≤cap∧cap≤maxLen∧(a=none→cap=0)∧
  (0<l.length→∃b off,a=some ⟨b,off,none⟩∧b<w.heap.size∧∀j x,l[j]? =some x→w.cell? ⟨b,off+j,none⟩=some (.int .u32 (x:Nat))):=by
 obtain⟨⟨a,cap,rfl,h1,⟨h2,h2'⟩,h3⟩,_⟩:=h;refine⟨a,cap,rfl,h1,h2,h2',fun hl=>?_⟩;obtain⟨b,off,rfl,hb,hc⟩:=h3 (fun e=>by have:=congrArg List.length e;rw[gZ] at this;simp at this;simp[this] at hl)
 exact⟨b,off,rfl,hb,fun j x hj=>hc j _ (mP hj)⟩
theorem Mg.cell{w:World}{b off n cap:Nat}{l:List Nat}(h:Mg w (.slice (some ⟨b,off,none⟩) n cap) l){j x:Nat}(hx:l[j]? =some x):w.cell? ⟨b,off+j,none⟩=some (.int .u32 (x:Nat)):=by
 obtain⟨a,cap',hv,_,_,_,hr⟩:=h.form;injection hv with e1 e2 e3
 subst e1;obtain⟨b',off',hv',_,hc⟩:=hr (by have:=(List.getElem?_eq_some_iff.1 hx).1;omega)
 injection hv' with hv'
 injection hv' with e4 e5
 subst e4 e5;exact hc j x hx
theorem Mg.of_owns{w:World}{base e:Nat}{v:Value}{l:List Nat}(h:w.ownsRow base e 1 v l.length (bJ l))(hl:Lm l):Mg w v l:=⟨Rd.of_owns h,hl⟩
theorem cZe:(Tryz.prog.info? 168).map (fun i=>(i.zero,i.size,i.bytes))=some (some (.int .u32 0),1,4):=by kernel_rfl
def oZd(w:World)(l:List Nat)(e:Ending)(w':World):Prop:=
 ∃v,e= .returned v∧w'.ownsRow w.heap.size 168 1 v l.length (bJ l)∧Below w.heap.size w w'
theorem nZd(w:World):(Builtin.append_ #[30,30] 30 #[.slice none 0 0,.slice none 0 0]).run Tryz.prog w= .ok (.slice none 0 0) w:=by kernel_rfl
theorem tM(v:Value)(l:List Nat)(w:World)(h:Mg w v l)(hlen:l.length≤1099511627776):
  Calls Tryz.prog 60 #[v] w (oZd w (aE (val l))):=by
 obtain⟨i0,hi,hx⟩:=Option.map_eq_some_iff.1 cZe;simp only[Prod.mk.injEq] at hx;obtain⟨hz0,hz1,hz2⟩:=hx;have HL:=Lib.hid h.2;obtain⟨a,cap,rfl,hcap,hcm,hnil,hrd⟩:=h.form;unfold maxLen at hcm;have HRD:=Lib.hid hrd;have HNIL:=Lib.hid hnil;clear h hrd hnil;go_enter Tryz.func60,Tryz.ntmps60
 go_wp2_with fail
 go_loopg [3] l.length (fun g s3 wr=>∃(k:Nat),k≤l.length∧k=g∧s3= .int .i64 k∧w=wr∧∀i x,k≤i→l[i]? =some x→x=0)
 case atStart=>exact⟨l.length,oM,rfl,rfl,rfl,fun i x hi hx=>by rw[List.getElem?_eq_none hi] at hx;cases hx⟩
 case round=>
  obtain⟨k,hk,rfl,rfl,rfl,hz⟩:=hrel;have HZ:=Lib.hid hz;clear hz;cases k with
  |zero=>
   have HT:Hid (aE (val l)=[]):=by
    have:=pN HL.out (Nat.zero_le _) HZ.out (fun x h=>absurd h (Nat.lt_irrefl 0));rw[←this];rfl
   cases a with
   |none=>
    have h0:=HNIL.out rfl;subst h0;obtain rfl:l=[]:=List.length_eq_zero_iff.1 oM;have hap:=fun w=>nZd w;go_wp2_with fail
    go_ret
    exact⟨_,rfl,World.ownsRow_nil _ _ _ _,Below.refl _ _⟩
   |some ad=>
    go_wp2_with (at_builtin;refine wpList_append_own _ rfl _ _ 30 rfl w.heap.size 168 i0 (.int .u32 0) 1 4 Tryz.underlying30 hi hz0 hz1 hz2 rfl aD (.slice none 0 0) 0 [] rfl (World.ownsRow_nil _ _ _ _) ad 0 cap [] rfl rfl ?c1 ?c2 ?c3 ?c4 ?c5 ?_)
    case c1=>simp
    case c2=>simp
    case c3=>unfold maxLen;omega
    case c4=>omega
    case c5=>omega
    intro v' w1 hown' hgrow _;have HX:Hid (w1.ownsRow w.heap.size 168 1 v' 0 []∧Below w.heap.size w w1):=⟨hown',(Below.refl _ _).grown hgrow (Nat.le_refl _) (by simp[Value.ownBlock])⟩
    clear hown' hgrow;go_wp2_with fail
    go_ret
    exact⟨_,rfl,by rw[HT.out];exact HX.out.1,HX.out.2⟩
  |succ k=>
   obtain⟨x,hx⟩:∃x,l[k]? =some x:=⟨_,List.getElem?_eq_getElem oM⟩;obtain⟨b,off,rfl,hb,hc⟩:=HRD.out oM;have hck:=hc k x hx;have hxB:=HL.out.get hx;rw[bM] at hxB
   by_cases hx0:x=0
   ·subst hx0
    have HZ2:Hid (∀i x,k≤i→l[i]? =some x→x=0):=by
     intro i y hi hy
     by_cases e:i=k
     ·subst e;rw[hx] at hy;exact(Option.some.inj hy).symm
     ·exact HZ.out i y oM hy
    have HC:=Lib.hid hc;clear hc hx HZ;go_wp2_with fail
    go_roundg k
    case measure=>omega
    case rel=>exact⟨k,oM,rfl,by go_num,rfl,HZ2.out⟩
   ·have hxb:((x:Int)==0)=false:=by rw[beq_eq_false_iff_ne];omega
    have HT:Hid (l.take (k+1)=aE (val l)):=pN HL.out hk HZ.out (fun y _ hy=>by rw[Nat.add_sub_cancel,hx] at hy;have:=Option.some.inj hy;omega)
    have HC:=Lib.hid hc;clear hc hx HZ hx0;go_wp2_with (at_builtin;refine wpList_append_own _ rfl _ _ 30 rfl w.heap.size 168 i0 (.int .u32 0) 1 4 Tryz.underlying30 hi hz0 hz1 hz2 rfl aD (.slice none 0 0) 0 [] rfl (World.ownsRow_nil _ _ _ _) ⟨b,off,none⟩ (k+1) cap (bJ (l.take (k+1))) rfl ?c6 ?d1 ?d2 ?d3 ?d4 ?d5 ?_)
    case c6=>rw[gZ,List.length_take];omega
    case d1=>
     intro j u hu;rw[tJ];have hj:j<k+1:=by
      have:=(List.getElem?_eq_some_iff.1 hu).1;rw[gZ,List.length_take] at this;omega
     obtain⟨y,hy⟩:∃y,l[j]? =some y:=⟨_,List.getElem?_eq_getElem oM⟩;rw[mP (by rw[List.getElem?_take_of_lt hj];exact hy)] at hu
     rw[←hu];exact HC.out j y hy
    case d2=>exact aZl _
    case d3=>unfold maxLen;omega
    case d4=>omega
    case d5=>omega
    intro v' w1 hown' hgrow _;have HX:Hid (w1.ownsRow w.heap.size 168 1 v' (l.take (k+1)).length (bJ (l.take (k+1)))∧Below w.heap.size w w1):=⟨by rw[List.length_take,Nat.min_eq_left hk];exact hown',(Below.refl _ _).grown hgrow (Nat.le_refl _) (by simp[Value.ownBlock])⟩
    clear hown' hgrow;go_wp2_with fail
    go_ret
    exact⟨_,rfl,by rw[←HT.out];exact HX.out.1,HX.out.2⟩
def Fr(base:Nat)(a:Option Addr):Prop:=∀ad,a=some ad→base≤ad.block
theorem Fr.mono{b b':Nat}{a:Option Addr}(h:Fr b a)(hb:b'≤b):Fr b' a:=fun ad e=>Nat.le_trans hb (h ad e)
theorem Fr.of_owns{w:World}{base e n cap:Nat}{a:Option Addr}{xs:List Value}(h:w.ownsRow base e 1 (.slice a n cap) n xs):Fr base a:=by
 intro ad e;subst e;exact(h.lt ad.block rfl).1
theorem Mg.store{w:World}{a:Option Addr}{n cap base:Nat}{l:List Nat}(h:Mg w (.slice a n cap) l)(hf:Fr base a){p:Addr}(hp:p.block<base)(u:Value):Mg (w.setCell p u) (.slice a n cap) l:=by
 obtain⟨⟨a',cap',h0,h1,h2,h3⟩,hl⟩:=h;injection h0 with e1 e2 e3
 subst e1 e3;refine⟨⟨a,cap,by rw[e2],h1,h2,fun hx=>?_⟩,hl⟩
 obtain⟨b,off,rfl,hb,hc⟩:=h3 hx;have hne:b≠p.block:=by have:=hf _ rfl;simp only at this;omega
 refine⟨b,off,rfl,by simpa [World.setCell] using hb,fun j u' hj=>?_⟩
 rw[World.cell?_of_block (w:=w) (a:=⟨b,off+j,none⟩) (Below.heap_setCell _ _ _ _ hne)];exact hc j u' hj
theorem sZ{W w1:World}(hb:Below W.heap.size W w1):(∀b o,b<W.heap.size→w1.cell? ⟨b,o,none⟩=W.cell? ⟨b,o,none⟩)∧(∀b o,b<W.heap.size→w1.frozen? ⟨b,o,none⟩=W.frozen? ⟨b,o,none⟩):=
 ⟨fun b o h=>hb.cell (p:=⟨b,o,none⟩) h,fun b o h=>hb.frozen (p:=⟨b,o,none⟩) h⟩
theorem fU{B:Nat}{w W w1:World}(h:Below B w W)(hb:Below W.heap.size W w1)(hB:B≤W.heap.size):Below B w w1:=h.trans (hb.mono hB)
def IsZ(w:World)(s:Bool)(a:Option Addr)(n cap:Nat)(z:Int)(k:Nat):Prop:=
 ∃l,l.length=n∧Mg w (.slice a n cap) l∧n≤k∧z=if s then-(val l:Int) else(val l:Int)
def Can(w:World)(s:Bool)(a:Option Addr)(n cap:Nat)(z:Int):Prop:=s=decide (z<0)∧n=(aE z.natAbs).length∧Mg w (.slice a n cap) (aE z.natAbs)
def sz(z:Int):Nat:=(aE z.natAbs).length
theorem Can.store{w:World}{s:Bool}{a:Option Addr}{n cap base:Nat}{z:Int}(h:Can w s a n cap z)(hf:Fr base a){p:Addr}(hp:p.block<base)(u:Value):Can (w.setCell p u) s a n cap z:=⟨h.1,h.2.1,h.2.2.store hf hp u⟩
def tK(z:Int)(w:World)(e:Ending)(w':World):Prop:=∃s a n cap,e= .returned (.agg #[.bool s,.slice a n cap])∧Can w' s a n cap z∧Fr w.heap.size a∧Below w.heap.size w w'
theorem xN{neg:Bool}{n:Nat}{z:Int}(h:z=if neg then-(n:Int) else(n:Int)):z.natAbs=n∧decide (z<0)=(neg&&decide (0<n)):=by
 cases neg
 ·simp only[Bool.false_eq_true,if_false] at h
  refine⟨oM,?_⟩;rw[decide_eq_false oM];rfl
 ·simp only[if_true] at h
  refine⟨oM,?_⟩;rcases Nat.eq_zero_or_pos n with h0|h0
  ·rw[decide_eq_false oM,decide_eq_false oM];rfl
  ·rw[decide_eq_true oM,decide_eq_true h0];rfl
theorem zP(n:Nat):decide (0<(aE n).length)=decide (0<n):=by
 rcases Nat.eq_zero_or_pos n with h|h
 ·subst h;rfl
 ·rw[decide_eq_true h,decide_eq_true]
  rw[dZ oM];simp
theorem gZK{w w1:World}{s:Bool}{a:Option Addr}{n cap base R:Nat}{z:Int}(h1:Below w.heap.size w w1)(hR:w.heap.size≤R)(hlt:R<base)(hc:Can w1 s a n cap z)(hf:Fr base a)(x y:Value):
  tK z w (.returned (.agg #[.bool s,.slice a n cap])) ((w1.setCell ⟨R,0,none⟩ x).setCell ⟨R,1,none⟩ y):=
 ⟨s,a,n,cap,rfl,(hc.store hf (p:=⟨R,0,none⟩) hlt x).store hf (p:=⟨R,1,none⟩) hlt y,hf.mono oM,(h1.setCell (p:=⟨R,0,none⟩) hR x).setCell (p:=⟨R,1,none⟩) hR y⟩
theorem vH{w:World}{R:Nat}{a b:Value}{t:TypeId}{fr:Nat×Nat}(h:w.heap[R]? =some (.cells #[a,b] t fr))(x y:Value):
  ((w.setCell ⟨R,0,none⟩ x).setCell ⟨R,1,none⟩ y).heap[R]? =some (.cells #[x,y] t fr):=by
 simp[World.setCell,Array.getElem?_modify,h]
theorem zres{fn:Func}{p:Tmp}{w:World}{R:Nat}{x y:Value}{t:TypeId}{fr:Nat×Nat}{tmps:Array Value}(h:fn.results= #[.cell p 32])(hp:tmps.getD p undef= .pointer (some ⟨R,0,none⟩))(hg:w.heap[R]? =some (.cells #[x,y] t fr)):
  (results fn tmps).run Tryz.prog w= .ok (.agg #[x,y]) w:=
 results_cell_row h tmps w R t #[x,y] fr _ hp hg Tryz.underlying32 rfl (by kernel_rfl)
theorem pJ(neg:Bool)(v:Value)(l:List Nat)(w:World)(z:Int)(h:Mg w v l)(hlen:l.length≤1099511627776)(hz:z=if neg then-(val l:Int) else(val l:Int)):
  Calls Tryz.prog 123 #[.bool neg,v] w (tK z w):=by
 obtain⟨ha,hd⟩:=xN hz;rw[←zP] at hd;obtain⟨L,hL⟩:∃L,aE (val l)=L:=⟨_,rfl⟩;have hb0:=(Below.refl w.heap.size w).alloc (Nat.le_refl _) (.cells #[.bool false,.slice none 0 0] 32);have C:=Lib.hid (tM v l (w.alloc (.cells #[.bool false,.slice none 0 0] 32)) (h.below hb0) hlen);have HLm:=Lib.hid (aJ (val l));have HF:Hid (decide (z<0)=(neg&&decide (0<L.length))∧aE z.natAbs=L):=by rw[ha,hL,←hL];exact⟨hd,rfl⟩
 rw[hL] at C HLm;have HB0:=Lib.hid hb0;clear hz ha hd hL h hb0;cases neg
 all_goals
  go_enter Tryz.func123,Tryz.ntmps123
  go_wp2_with fail
  refine C.out.mono ?_;rintro e w1 ⟨v1,rfl,hown,hb⟩;obtain⟨a1,cap1,hv1,_⟩:=(Mg.of_owns hown HLm.out).form;subst hv1;have HM:=Lib.hid (Mg.of_owns hown HLm.out);have HFr:=Lib.hid (Fr.of_owns hown);obtain⟨hc1,hf1⟩:=sZ hb;have hs1:=hb.size;simp at hs1;have HB:=Lib.hid (fU HB0.out hb (by simp))
  have HR:Hid (w1.heap[w.heap.size]? =some (.cells #[.bool false,.slice none 0 0] 32 (0,0))):=by show _=_;rw[hb.block _ (by simp)];exact heap_alloc_new w _
  clear hown hb;go_wp2_with fail
  refine bodyPost_ret (v:= .agg #[.bool (decide (z<0)),.slice a1 L.length cap1]) (by rw[HF.out.1];exact zres rfl rfl (vH HR.out _ _)) rfl ?_
  refine gZK HB.out (Nat.le_refl _) (base:=w.heap.size+1) (Nat.lt_succ_self _) ⟨rfl,by rw[HF.out.2],by rw[HF.out.2];exact HM.out⟩ ?_ _ _
  have:=HFr.out;simpa using this
theorem oZR{W:World}{R c:Nat}{T:TypeId}(l:List Nat)(hR:R=W.heap.size)(hl:Lm l)(hc:l.length≤c)(hm:c≤maxLen):Mg (W.alloc (.cells (bJ l).toArray T)) (.slice (some ⟨R,0,none⟩) l.length c) l:=by
 refine⟨⟨_,c,rfl,hc,⟨hm,fun h=>by cases h⟩,fun _=>⟨R,0,rfl,by simp[hR],fun j u hj=>?_⟩⟩,hl⟩
 have:=hZA W R hR (bJ l) T j u hj;rwa[tJ] at this
theorem kZN(u:Nat):val [u%B,u/B]=u:=by
 simp only[val,Nat.mul_zero,Nat.add_zero];exact Nat.mod_add_div u B
theorem pZa{u:Nat}(hu:u<18446744073709551616):Lm [u%B,u/B]:=by
 have h1:u%B<B:=Nat.mod_lt _ dD;have h2:u/B<B:=by rw[bM];omega
 exact Lm.cons h1 (Lm.cons h2 Lm.nil)
theorem pH(neg:Bool)(u:Nat)(w:World)(z:Int)(hu:u<18446744073709551616)(hz:z=if neg then-(u:Int) else(u:Int)):
  Calls Tryz.prog 103 #[.bool neg,.int .u64 u] w (tK z w):=by
 have hm:=oZR (W:=w.alloc (.cells #[.bool false,.slice none 0 0] 32)) (R:=w.heap.size+1) (c:=2) (T:=168) [u%B,u/B] (by simp) (pZa hu) (by simp) (by unfold maxLen;omega)
 have C:=Lib.hid (pJ neg _ _ _ z hm (by simp) (by rw[kZN];exact hz))
 have e:(bJ [u%B,u/B]).toArray= #[.int .u32 ((u:Int)%4294967296),.int .u32 ((u:Int)/4294967296)]:=by simp[bJ,bM]
 rw[e] at C;have HB0:=Lib.hid (((Below.refl w.heap.size w).alloc (Nat.le_refl _) (.cells #[.bool false,.slice none 0 0] 32)).alloc (by simp) (.cells #[.int .u32 ((u:Int)%4294967296),.int .u32 ((u:Int)/4294967296)] 168))
 clear hm hz e;go_enter Tryz.func103,Tryz.ntmps103
 go_wp2_with fail
 refine C.out.mono ?_;rintro e w1 ⟨s1,a1,n1,cap1,rfl,hz1,hfr1,hb⟩;obtain⟨hc1,hf1⟩:=sZ hb;have hs1:=hb.size;simp at hs1;have HZ:=Lib.hid hz1;have HFr:=Lib.hid hfr1;have HB:=Lib.hid (fU HB0.out hb (by simp;omega))
 have HR:Hid (w1.heap[w.heap.size]? =some (.cells #[.bool false,.slice none 0 0] 32 (0,0))):=by show _=_;rw[hb.block _ (by simp;omega),Below.heap_alloc _ _ _ (by simp)];exact heap_alloc_new w _
 clear hb hz1 hfr1;go_wp2_with fail
 refine bodyPost_ret (v:= .agg #[.bool s1,.slice a1 n1 cap1]) (zres rfl rfl (vH HR.out _ _)) rfl ?_;exact gZK HB.out (Nat.le_refl _) (base:=w.heap.size+1) (Nat.lt_succ_self _) HZ.out (HFr.out.mono (by simp)) _ _
theorem kZO{n:Int}(h1: -9223372036854775808≤n)(h2:n<0):IntKind.u64.wrap (-(IntKind.u64.wrap n))= -n:=by
 rw[IntKind.wrap_u64,IntKind.wrap_u64];omega
theorem dZY{w:World}{R:Nat}{a b:Value}(c0:w.cell? ⟨R,0,none⟩=some a)(c1:w.cell? ⟨R,1,none⟩=some b)(x y:Value):
  ((w.setCell ⟨R,0,none⟩ x).setCell ⟨R,1,none⟩ y).cell? ⟨R,0,none⟩=some x∧((w.setCell ⟨R,0,none⟩ x).setCell ⟨R,1,none⟩ y).cell? ⟨R,1,none⟩=some y:=by
 unfold World.cell? at*;simp only[World.setCell,Array.getElem?_modify];cases hh:w.heap[R]? with
 |none=>simp[hh] at c0
 |some o=>
  cases o with
  |cells cs t fr=>
   simp only[hh] at c0 c1;simp at c0 c1;have h0:=(Array.getElem?_eq_some_iff.1 c0).1;have h1:=(Array.getElem?_eq_some_iff.1 c1).1;simp[h0,h1]
  |_=>simp[hh] at c0
theorem fZu{fn:Func}{p:Tmp}{w:World}{R:Nat}{x y a b:Value}{tmps:Array Value}(h:fn.results= #[.cell p 32])(hp:tmps.getD p undef= .pointer (some ⟨R,0,none⟩))(c0:w.cell? ⟨R,0,none⟩=some a)(c1:w.cell? ⟨R,1,none⟩=some b):
  (results fn tmps).run Tryz.prog ((w.setCell ⟨R,0,none⟩ x).setCell ⟨R,1,none⟩ y)= .ok (.agg #[x,y]) ((w.setCell ⟨R,0,none⟩ x).setCell ⟨R,1,none⟩ y):=by
 obtain⟨d0,d1⟩:=dZY c0 c1 x y;have hp':tmps[p]?.getD undef= .pointer (some ⟨R,0,none⟩):=by simpa using hp
 simp[results,h,hp',asAddr,go_sem,d0,d1]
theorem eZs(n:Int)(w:World)(h1: -9223372036854775808≤n)(h2:n≤9223372036854775807):
  Calls Tryz.prog 45 #[.int .i64 n] w (tK n w):=by
 have HB0:=Lib.hid ((Below.refl w.heap.size w).alloc (Nat.le_refl _) (.cells #[.bool false,.slice none 0 0] 32));obtain⟨u,hu⟩:∃u:Nat,n.natAbs=u:=⟨_,rfl⟩
 by_cases hn:n<0
 ·have C:=Lib.hid (pH true u (w.alloc (.cells #[.bool false,.slice none 0 0] 32)) n oM (by simp;omega))
  rw[show(u:Int)= -n by omega] at C
  have hu64:=kZO h1 hn;clear hu;go_enter Tryz.func45,Tryz.ntmps45
  go_wp2_with fail
  refine(C.out).mono ?_;rintro e w1 ⟨s1,a1,n1,cap1,rfl,hz1,hfr1,hb1⟩;obtain⟨hc1,hf1⟩:=sZ hb1;have hs1:=hb1.size;repeat first|rw[World.size_alloc] at hs1|rw[size_setCell] at hs1
  have HZ1:=Lib.hid hz1;have HFr1:=Lib.hid hfr1;have HB1:=Lib.hid (fU HB0.out hb1 (by first|omega|(simp;done)|(simp;omega)))
  have HbN1:=Lib.hid hb1;clear hz1 hfr1 hb1;go_wp2_with fail
  refine bodyPost_ret (v:= .agg #[.bool s1,.slice a1 n1 cap1]) (fZu rfl rfl (w:=w1) (a:= .bool false) (b:= .slice none 0 0) (R:=w.heap.size) (by simp(disch:=first|omega|(simp;done)|(simp;omega)) [hc1]) (by simp(disch:=first|omega|(simp;done)|(simp;omega)) [hc1])) rfl ?_
  exact gZK HB1.out (by first|omega|(simp;done)|(simp;omega)) (R:=w.heap.size) (base:=w.heap.size+1) (Nat.lt_succ_self _) HZ1.out (HFr1.out.mono (by first|omega|(simp;done)|(simp;omega))) _ _
 ·have C:=Lib.hid (pH false u (w.alloc (.cells #[.bool false,.slice none 0 0] 32)) n oM (by simp;omega))
  rw[show(u:Int)=n by omega] at C
  clear hu;go_enter Tryz.func45,Tryz.ntmps45
  go_wp2_with fail
  refine(C.out).mono ?_;rintro e w1 ⟨s1,a1,n1,cap1,rfl,hz1,hfr1,hb1⟩;obtain⟨hc1,hf1⟩:=sZ hb1;have hs1:=hb1.size;repeat first|rw[World.size_alloc] at hs1|rw[size_setCell] at hs1
  have HZ1:=Lib.hid hz1;have HFr1:=Lib.hid hfr1;have HB1:=Lib.hid (fU HB0.out hb1 (by first|omega|(simp;done)|(simp;omega)))
  have HbN1:=Lib.hid hb1;clear hz1 hfr1 hb1;go_wp2_with fail
  refine bodyPost_ret (v:= .agg #[.bool s1,.slice a1 n1 cap1]) (fZu rfl rfl (w:=w1) (a:= .bool false) (b:= .slice none 0 0) (R:=w.heap.size) (by simp(disch:=first|omega|(simp;done)|(simp;omega)) [hc1]) (by simp(disch:=first|omega|(simp;done)|(simp;omega)) [hc1])) rfl ?_
  exact gZK HB1.out (by first|omega|(simp;done)|(simp;omega)) (R:=w.heap.size) (base:=w.heap.size+1) (Nat.lt_succ_self _) HZ1.out (HFr1.out.mono (by first|omega|(simp;done)|(simp;omega))) _ _
theorem hZN(s:Bool)(a:Option Addr)(n cap:Nat)(z:Int)(k:Nat)(w:World)(h:IsZ w s a n cap z k)(hk:k≤1099511627776):
  Calls Tryz.prog 151 #[.agg #[.bool s,.slice a n cap]] w (tK (z.natAbs:Int) w):=by
 have hb0:=((Below.refl w.heap.size w).alloc (Nat.le_refl _) (.cells #[.bool s,.slice a n cap] 32)).alloc (by first|omega|(simp;done)|(simp;omega)) (.cells #[.bool false,.slice none 0 0] 32)
 obtain⟨l,hl,hm,hn,hz⟩:=h;have C:=Lib.hid (pJ false _ _ _ (z.natAbs:Int) (hm.below hb0) oM (by rw[(xN hz).1];simp))
 have HB0:=Lib.hid hb0;clear hm hl hz hb0;go_enter Tryz.func151,Tryz.ntmps151
 go_wp2_with fail
 refine(C.out).mono ?_;rintro e w1 ⟨s1,a1,n1,cap1,rfl,hz1,hfr1,hb1⟩;obtain⟨hc1,hf1⟩:=sZ hb1;have hs1:=hb1.size;repeat first|rw[World.size_alloc] at hs1|rw[size_setCell] at hs1
 have HZ1:=Lib.hid hz1;have HFr1:=Lib.hid hfr1;have HB1:=Lib.hid (fU HB0.out hb1 (by first|omega|(simp;done)|(simp;omega)))
 have HbN1:=Lib.hid hb1;clear hz1 hfr1 hb1;go_wp2_with fail
 refine bodyPost_ret (v:= .agg #[.bool s1,.slice a1 n1 cap1]) (fZu rfl rfl (w:=w1) (a:= .bool false) (b:= .slice none 0 0) (R:=(w.heap.size+1)) (by simp(disch:=first|omega|(simp;done)|(simp;omega)) [hc1]) (by simp(disch:=first|omega|(simp;done)|(simp;omega)) [hc1])) rfl ?_
 exact gZK HB1.out (by first|omega|(simp;done)|(simp;omega)) (R:=(w.heap.size+1)) (base:=(w.heap.size+1)+1) (Nat.lt_succ_self _) HZ1.out (HFr1.out.mono (by first|omega|(simp;done)|(simp;omega))) _ _
theorem hZI(s:Bool)(a:Option Addr)(n cap:Nat)(z:Int)(k:Nat)(w:World)(h:IsZ w s a n cap z k)(hk:k≤1099511627776):
  Calls Tryz.prog 66 #[.agg #[.bool s,.slice a n cap]] w (tK (-z) w):=by
 have hb0:=((Below.refl w.heap.size w).alloc (Nat.le_refl _) (.cells #[.bool s,.slice a n cap] 32)).alloc (by first|omega|(simp;done)|(simp;omega)) (.cells #[.bool false,.slice none 0 0] 32)
 obtain⟨l,hl,hm,hn,hz⟩:=h;have C:=Lib.hid (pJ (!s) _ _ _ (-z) (hm.below hb0) oM (by rw[hz];cases s<;>simp))
 have HB0:=Lib.hid hb0;clear hm hl hz hb0;go_enter Tryz.func66,Tryz.ntmps66
 go_wp2_with fail
 refine(C.out).mono ?_;rintro e w1 ⟨s1,a1,n1,cap1,rfl,hz1,hfr1,hb1⟩;obtain⟨hc1,hf1⟩:=sZ hb1;have hs1:=hb1.size;repeat first|rw[World.size_alloc] at hs1|rw[size_setCell] at hs1
 have HZ1:=Lib.hid hz1;have HFr1:=Lib.hid hfr1;have HB1:=Lib.hid (fU HB0.out hb1 (by first|omega|(simp;done)|(simp;omega)))
 have HbN1:=Lib.hid hb1;clear hz1 hfr1 hb1;go_wp2_with fail
 refine bodyPost_ret (v:= .agg #[.bool s1,.slice a1 n1 cap1]) (fZu rfl rfl (w:=w1) (a:= .bool false) (b:= .slice none 0 0) (R:=(w.heap.size+1)) (by simp(disch:=first|omega|(simp;done)|(simp;omega)) [hc1]) (by simp(disch:=first|omega|(simp;done)|(simp;omega)) [hc1])) rfl ?_
 exact gZK HB1.out (by first|omega|(simp;done)|(simp;omega)) (R:=(w.heap.size+1)) (base:=(w.heap.size+1)+1) (Nat.lt_succ_self _) HZ1.out (HFr1.out.mono (by first|omega|(simp;done)|(simp;omega))) _ _
end
section
open Go.RowKit Limb
theorem gZJ(s:Bool)(a:Option Addr)(n cap:Nat)(z:Int)(k:Nat)(w:World)(h:IsZ w s a n cap z k)(hk:k≤1099511627776):
  Calls Tryz.prog 62 #[.agg #[.bool s,.slice a n cap]] w fun e w'=>e= .returned (.int .i64 (sg3 z))∧Below w.heap.size w w':=by
 have hb0:=(Below.refl w.heap.size w).alloc (Nat.le_refl _) (.cells #[.bool s,.slice a n cap] 32);obtain⟨l,hl,hm,hn,hz⟩:=h;have C:=Lib.hid (tM _ _ _ (hm.below hb0) oM);have HB0:=Lib.hid hb0;rcases eZB hz with⟨h0,h1⟩|⟨h0,rfl,h1⟩|⟨h0,rfl,h1⟩
 all_goals
  have H1:=Lib.hid h1;have hL:((aE (val l)).length==0)=(val l==0):=by
   have:=zP (val l);rw[Bool.eq_iff_iff,beq_iff_eq,beq_iff_eq];have h:=decide_eq_decide.1 this;omega
  have hL2:(((aE (val l)).length:Int)==0)=(val l==0):=by rw[←hL,Bool.eq_iff_iff,beq_iff_eq,beq_iff_eq];omega
  have hv:(val l==0)=true∨(val l==0)=false:=by cases(val l==0)<;>simp
  first
   |(have hv0:(val l==0)=true:=(by rw[beq_iff_eq];exact h0);rw[hv0] at hL2)
   |(have hv0:(val l==0)=false:=(by rw[beq_eq_false_iff_ne];omega);rw[hv0] at hL2)
  clear h0 h1 hz hm hl hb0 hL hv hv0;go_enter Tryz.func62,Tryz.ntmps62
  go_wp2_with fail
  refine(C.out).mono ?_;rintro e w1 ⟨v1,rfl,hown1,hb1⟩;obtain⟨a1,cap1,hv1,hcap1,hcm1,hnil1,_⟩:=(Mg.of_owns hown1 (aJ _)).form;subst hv1;have HM1:=Lib.hid (Mg.of_owns hown1 (aJ _));have HFr1:=Lib.hid (Fr.of_owns hown1);obtain⟨hc1,hf1⟩:=sZ hb1;have hs1:=hb1.size;repeat first|rw[World.size_alloc] at hs1|rw[size_setCell] at hs1
  have HB1:=Lib.hid (fU HB0.out hb1 (by first|omega|(simp;done)|(simp;omega)))
  have HbN1:=Lib.hid hb1;clear hown1 hb1 hnil1;go_wp2_with fail
  go_ret
  exact⟨lV H1.out.symm,HB1.out⟩
theorem hZM(v1 v2:Value)(l1 l2:List Nat)(w:World)(h1:Mg w v1 l1)(h2:Mg w v2 l2)(hl1:l1.length≤1099511627776)(_hl2:l2.length≤1099511627776):
  Calls Tryz.prog 153 #[v1,v2] w fun e w'=>e= .returned (.int .i64 (gA l1 l2))∧Below w.heap.size w w':=by
 have H1:=Lib.hid h1;have H2:=Lib.hid h2;obtain⟨a1,cap1,rfl,_,_,_,_⟩:=h1.form;obtain⟨a2,cap2,rfl,_,_,_,_⟩:=h2.form;clear h1 h2;rcases Nat.lt_trichotomy l1.length l2.length with hlt|heq|hgt
 ·have HC:Hid (gA l1 l2= -1):=by show gA l1 l2= -1;unfold gA;rw[if_pos hlt]
  have hb:((l1.length:Int) !=(l2.length:Int))=true:=by rw[bne_iff_ne];omega
  go_enter Tryz.func153,Tryz.ntmps153
  go_wp2_with fail
  go_ret
  exact⟨lV HC.out.symm,Below.refl _ _⟩
 ·have hb:((l1.length:Int) !=(l2.length:Int))=false:=by simp[heq]
  have HQ:=Lib.hid heq;clear heq;go_enter Tryz.func153,Tryz.ntmps153
  go_wp2_with fail
  go_loopg [4,5] l1.length (fun g s4 s5 wr=>s5= .int .i64 ((g:Int)-1)∧g≤l1.length∧l1.drop g=l2.drop g∧Below w.heap.size w wr)
  case atStart=>exact⟨rfl,Nat.le_refl _,by rw[List.drop_eq_nil_of_le (Nat.le_refl _),List.drop_eq_nil_of_le (by rw[HQ.out];exact Nat.le_refl _)],Below.refl _ _⟩
  case round=>
   obtain⟨rfl,hg,hdr,hbx⟩:=hrel;have HD:=Lib.hid hdr;have HBX:=Lib.hid hbx;clear hdr;cases gk with
   |zero=>
    have HC:Hid (gA l1 l2=0):=by
     have:l1=l2:=by simpa using HD.out
     show gA l1 l2=0
     rw[this,bZi]
    clear hbx;go_wp2_with fail
    go_ret
    exact⟨lV HC.out.symm,HBX.out⟩
   |succ g=>
    obtain⟨x,hx⟩:∃x,l1[g]? =some x:=⟨_,List.getElem?_eq_getElem oM⟩;obtain⟨y,hy⟩:∃y,l2[g]? =some y:=⟨_,List.getElem?_eq_getElem (by have:=HQ.out;omega)⟩
    have hq:=HQ.out;obtain⟨a1',cap1',hv1,_,_,_,hr1⟩:=(H1.out.below hbx).form;obtain⟨a2',cap2',hv2,_,_,_,hr2⟩:=(H2.out.below hbx).form;injection hv1 with e1 e2 e3
    injection hv2 with e4 e5 e6
    subst e1 e3 e4 e6;obtain⟨b1,off1,rfl,hb1,hcl1⟩:=hr1 oM;obtain⟨b2,off2,rfl,hb2,hcl2⟩:=hr2 oM;have c1:=hcl1 g x hx;have c2:=hcl2 g y hy;have hxB:=H1.out.2.get hx;have hyB:=H2.out.2.get hy;rw[bM] at hxB hyB;have hg2:g<l2.length:=oM;have hgi1:(g:Int)<(l1.length:Int):=oM;have hgi2:(g:Int)<(l2.length:Int):=oM;have HL1:=Lib.hid H1.out.2;have HL2:=Lib.hid H2.out.2;have HX:=Lib.hid hx;have HY:=Lib.hid hy;clear hcl1 hcl2 e2 e5 hbx hx hy hq;rcases Nat.lt_trichotomy x y with hxy|hxy|hxy
    ·have HC:Hid (gA l1 l2= -1):=by
      have:=kP HQ.out HL1.out HX.out HY.out hxy HD.out;show gA l1 l2= -1
      unfold gA;rw[if_neg (by rw[HQ.out];omega),if_neg (by rw[HQ.out];omega),if_pos this]
     have hne:((x:Int) !=(y:Int))=true:=by rw[bne_iff_ne];omega
     have hlti:decide (x<y)=true:=decide_eq_true hxy;go_wp2_with fail
     go_quiet (fail)
     go_wp2_with fail
     go_quiet (fail)
     go_wp2_with fail
     go_ret
     exact⟨lV HC.out.symm,by first|exact below_drewN HBX.out _|exact below_drewN (below_drewN HBX.out _) _⟩
    ·subst hxy
     have HD2:Hid (l1.drop g=l2.drop g):=by
      have e1:=List.drop_eq_getElem_cons (l:=l1) (i:=g) oM;have e2:=List.drop_eq_getElem_cons (l:=l2) (i:=g) oM;show l1.drop g=l2.drop g
      rw[e1,e2,HD.out];congr 1
      rw[(List.getElem?_eq_some_iff.1 HX.out).2,(List.getElem?_eq_some_iff.1 HY.out).2]
     have hne:((x:Int) !=(x:Int))=false:=by simp
     go_wp2_with fail
     go_quiet (fail)
     go_wp2_with fail
     go_roundg g
     case measure=>omega
     case rel=>exact⟨by go_num,oM,HD2.out,below_drewN HBX.out _⟩
    ·have HC:Hid (gA l1 l2=1):=by
      have:=kP HQ.out.symm HL2.out HY.out HX.out hxy HD.out.symm;show gA l1 l2=1
      unfold gA;rw[if_neg (by rw[HQ.out];omega),if_neg (by rw[HQ.out];omega),if_neg oM,if_pos this]
     have hne:((x:Int) !=(y:Int))=true:=by rw[bne_iff_ne];omega
     have hlti:decide (x<y)=false:=decide_eq_false oM;go_wp2_with fail
     go_quiet (fail)
     go_wp2_with fail
     go_quiet (fail)
     go_wp2_with fail
     go_ret
     exact⟨lV HC.out.symm,by first|exact below_drewN HBX.out _|exact below_drewN (below_drewN HBX.out _) _⟩
 ·have HC:Hid (gA l1 l2=1):=by show gA l1 l2=1;unfold gA;rw[if_neg oM,if_pos hgt]
  have hb:((l1.length:Int) !=(l2.length:Int))=true:=by rw[bne_iff_ne];omega
  go_enter Tryz.func153,Tryz.ntmps153
  go_wp2_with fail
  go_ret
  exact⟨lV HC.out.symm,Below.refl _ _⟩
end
section
open Go.RowKit Limb
def wX(N K:Nat)(w:World)(e:Ending)(w':World):Prop:=
 ∃L v,e= .returned v∧w'.ownsRow w.heap.size 168 1 v L.length (bJ L)∧Lm L∧val L=N∧L.length≤K∧Below w.heap.size w w'
theorem fL{w:World}{base:Nat}{v:Value}{O:List Nat}{X:Int}{d:Nat}(h:w.ownsRow base 168 1 v (O.length+1) (bJ O++[.int .u32 X]))(hX:X=(d:Int)):w.ownsRow base 168 1 v (O++[d]).length (bJ (O++[d])):=by
 rw[uD,List.length_append];subst hX;exact h
theorem kQ(X:Int):∀u∈([.int .u32 X]:List Value),u.oneCell'=true:=by
 intro u hu;rw[List.mem_singleton] at hu;subst hu;rfl
theorem dP{w:World}{a:Nat}(h:a≤w.heap.size)(o:Obj):a≤(w.alloc o).heap.size:=by simp;omega
theorem hZH(v1 v2:Value)(l1 l2:List Nat)(w:World)(h1:Mg w v1 l1)(h2:Mg w v2 l2)(hl1:l1.length≤1099511627776)(hl2:l2.length≤1099511627776):
  Calls Tryz.prog 162 #[v1,v2] w (wX (val l1+val l2) (max l1.length l2.length+1) w):=by
 obtain⟨i0,hi,hx⟩:=Option.map_eq_some_iff.1 cZe;simp only[Prod.mk.injEq] at hx;obtain⟨hz0,hz1,hz2⟩:=hx;have H1:=Lib.hid h1;have H2:=Lib.hid h2;obtain⟨a1,cap1,rfl,_,_,_,_⟩:=h1.form;obtain⟨a2,cap2,rfl,_,_,_,_⟩:=h2.form;clear h1 h2;go_enter Tryz.func162,Tryz.ntmps162
 go_wp2_with fail
 go_loopg [5,6,7] (max l1.length l2.length) (fun g s5 s6 s7 wr=>∃(i c:Nat) (O:List Nat),i+g=max l1.length l2.length∧s6= .int .u64 c∧s7= .int .i64 i∧SumInv l1 l2 i O c∧wr.ownsRow w.heap.size 168 1 s5 O.length (bJ O)∧Below w.heap.size w wr)
 case atStart=>exact⟨0,0,[],oM,rfl,rfl,SumInv.start _ _,World.ownsRow_nil _ _ _ _,Below.refl _ _⟩
 case round=>
  obtain⟨i,c,O,hig,rfl,rfl,hI,hown,hbel⟩:=hrel;have hc1:c≤1:=hI.2.2.1;have hOl:=hI.1;have HI:=Lib.hid hI;have hsz:=hbel.size;obtain⟨wo,rfl⟩:∃wo:World,wo=wr:=⟨_,rfl⟩;cases gk with
  |zero=>
   have hn1:¬(i:Int)<(l1.length:Int):=oM;have hn2:¬(i:Int)<(l2.length:Int):=oM;have HE:=Lib.hid (hI.done oM oM);have HO:=Lib.hid hown;have HBe:=Lib.hid hbel;have hOlen:O.length≤1099511627776:=oM;have HOL:=Lib.hid hOl;clear hown hbel hI hOl;have HA3x:Hid (O.length+1≤maxLen):=by show _≤_;unfold maxLen;omega
   have HA4x:Hid ((O.length+1)*4≤140737488355328):=by show _≤_;omega
   go_wp2_with (at_builtin;refine wpList_append_own _ rfl _ _ 30 rfl w.heap.size 168 i0 (.int .u32 0) 1 4 Tryz.underlying30 hi hz0 hz1 hz2 rfl aD _ _ _ rfl (HO.out.alloc _) ⟨wo.heap.size,0,none⟩ 1 1 [_] rfl rfl (cell_one_new _ _ _) (kQ _) HA3x.out HA4x.out (dP hsz _) ?_)
   intro vx wx hownx hgrowx _;have HX:Hid (wx.ownsRow w.heap.size 168 1 vx (O++[c]).length (bJ (O++[c]))∧Below w.heap.size w wx):=
    ⟨fL hownx rfl,(HBe.out.alloc hsz _).grown hgrowx (dP hsz _) fun k hk=>(HO.out.lt k hk).1⟩
   clear hownx hgrowx;go_wp2_with fail
   go_ret
   exact⟨O++[c],_,rfl,HX.out.1,HE.out.1,HE.out.2,by have:=HOL.out;rw[List.length_append,List.length_singleton];omega,HX.out.2⟩
  |succ g=>
   have hst:=hI.step H1.out.2 H2.out.2;have HO:=Lib.hid hown;have HBe:=Lib.hid hbel;have hOlen:O.length≤1099511627776:=oM;have hgetx:=kV H1.out.2 i;have hgety:=kV H2.out.2 i;rw[bM] at hgetx hgety;have hways:∃x y:Nat,l1[i]?.getD 0=x∧l2[i]?.getD 0=y∧((i<l1.length∧i<l2.length∧l1[i]? =some x∧l2[i]? =some y)∨(i<l1.length∧¬i<l2.length∧l1[i]? =some x∧y=0)∨(¬i<l1.length∧i<l2.length∧x=0∧l2[i]? =some y)):=by
    refine⟨_,_,rfl,rfl,?_⟩
    by_cases c1:i<l1.length<;>by_cases c2:i<l2.length
    ·left;exact⟨c1,c2,by rw[List.getElem?_eq_getElem c1];rfl,by rw[List.getElem?_eq_getElem c2];rfl⟩
    ·right;left;exact⟨c1,c2,by rw[List.getElem?_eq_getElem c1];rfl,by rw[List.getElem?_eq_none oM];rfl⟩
    ·right;right;exact⟨c1,c2,by rw[List.getElem?_eq_none oM];rfl,by rw[List.getElem?_eq_getElem c2];rfl⟩
    ·omega
   obtain⟨x,y,ex,ey,hways⟩:=hways;rw[ex,ey] at hst;rw[ex] at hgetx;rw[ey] at hgety;have HST:=Lib.hid hst;clear hst ex ey hI;have f1:=H1.out.below hbel;have f2:=H2.out.below hbel;obtain⟨a1',cap1',hv1,_,_,_,hr1⟩:=f1.form;obtain⟨a2',cap2',hv2,_,_,_,hr2⟩:=f2.form;injection hv1 with e1 e2 e3
   injection hv2 with e4 e5 e6
   subst e1 e3 e4 e6;clear e2 e5 f1 f2 hown hbel;have HOl:=Lib.hid hOl;clear hOl;rcases hways with⟨q1,q2,g1,g2⟩|⟨q1,q2,g1,rfl⟩|⟨q1,q2,rfl,g2⟩
   ·obtain⟨b1,off1,rfl,hb1,hcl1⟩:=hr1 oM
    obtain⟨b2,off2,rfl,hb2,hcl2⟩:=hr2 oM;have c1:=hcl1 i x g1;have c2:=hcl2 i y g2;have qi1:(i:Int)<(l1.length:Int):=oM;have qi2:(i:Int)<(l2.length:Int):=oM;clear hr1 hr2 hcl1 g1 hcl2 g2;have HA3y0:Hid (O.length+1≤maxLen):=by show _≤_;unfold maxLen;omega
    have HA4y0:Hid ((O.length+1)*4≤140737488355328):=by show _≤_;omega
    go_wp2_with (at_builtin;refine wpList_append_own _ rfl _ _ 30 rfl w.heap.size 168 i0 (.int .u32 0) 1 4 Tryz.underlying30 hi hz0 hz1 hz2 rfl aD _ _ _ rfl (HO.out.alloc _) ⟨wo.heap.size,0,none⟩ 1 1 [_] rfl rfl (cell_one_new _ _ _) (kQ _) HA3y0.out HA4y0.out (dP hsz _) ?_)
    intro vy0 wy0 howny0 hgrowy0 _;have HX:Hid (wy0.ownsRow w.heap.size 168 1 vy0 (O++[(c+x+y)%B]).length (bJ (O++[(c+x+y)%B]))∧Below w.heap.size w wy0):=
     ⟨fL howny0 (by rw[bM];omega),(HBe.out.alloc hsz _).grown hgrowy0 (dP hsz _) fun k hk=>(HO.out.lt k hk).1⟩
    clear howny0 hgrowy0;go_wp2_with fail
    go_roundg g
    case measure=>omega
    case rel=>exact⟨i+1,(c+x+y)/B,_,oM,by rw[bM];go_num,by go_num,HST.out,HX.out.1,HX.out.2⟩
   ·obtain⟨b1,off1,rfl,hb1,hcl1⟩:=hr1 oM
    have c1:=hcl1 i x g1;have qi1:(i:Int)<(l1.length:Int):=oM;have qi2:¬(i:Int)<(l2.length:Int):=oM;clear hr1 hr2 hcl1 g1;have HA3y1:Hid (O.length+1≤maxLen):=by show _≤_;unfold maxLen;omega
    have HA4y1:Hid ((O.length+1)*4≤140737488355328):=by show _≤_;omega
    go_wp2_with (at_builtin;refine wpList_append_own _ rfl _ _ 30 rfl w.heap.size 168 i0 (.int .u32 0) 1 4 Tryz.underlying30 hi hz0 hz1 hz2 rfl aD _ _ _ rfl (HO.out.alloc _) ⟨wo.heap.size,0,none⟩ 1 1 [_] rfl rfl (cell_one_new _ _ _) (kQ _) HA3y1.out HA4y1.out (dP hsz _) ?_)
    intro vy1 wy1 howny1 hgrowy1 _;have HX:Hid (wy1.ownsRow w.heap.size 168 1 vy1 (O++[(c+x+0)%B]).length (bJ (O++[(c+x+0)%B]))∧Below w.heap.size w wy1):=
     ⟨fL howny1 (by rw[bM];omega),(HBe.out.alloc hsz _).grown hgrowy1 (dP hsz _) fun k hk=>(HO.out.lt k hk).1⟩
    clear howny1 hgrowy1;go_wp2_with fail
    go_roundg g
    case measure=>omega
    case rel=>exact⟨i+1,(c+x+0)/B,_,oM,by rw[bM];go_num,by go_num,HST.out,HX.out.1,HX.out.2⟩
   ·obtain⟨b2,off2,rfl,hb2,hcl2⟩:=hr2 oM
    have c2:=hcl2 i y g2;have qi1:¬(i:Int)<(l1.length:Int):=oM;have qi2:(i:Int)<(l2.length:Int):=oM;clear hr1 hr2 hcl2 g2;have HA3y2:Hid (O.length+1≤maxLen):=by show _≤_;unfold maxLen;omega
    have HA4y2:Hid ((O.length+1)*4≤140737488355328):=by show _≤_;omega
    go_wp2_with (at_builtin;refine wpList_append_own _ rfl _ _ 30 rfl w.heap.size 168 i0 (.int .u32 0) 1 4 Tryz.underlying30 hi hz0 hz1 hz2 rfl aD _ _ _ rfl (HO.out.alloc _) ⟨wo.heap.size,0,none⟩ 1 1 [_] rfl rfl (cell_one_new _ _ _) (kQ _) HA3y2.out HA4y2.out (dP hsz _) ?_)
    intro vy2 wy2 howny2 hgrowy2 _;have HX:Hid (wy2.ownsRow w.heap.size 168 1 vy2 (O++[(c+0+y)%B]).length (bJ (O++[(c+0+y)%B]))∧Below w.heap.size w wy2):=
     ⟨fL howny2 (by rw[bM];omega),(HBe.out.alloc hsz _).grown hgrowy2 (dP hsz _) fun k hk=>(HO.out.lt k hk).1⟩
    clear howny2 hgrowy2;go_wp2_with fail
    go_roundg g
    case measure=>omega
    case rel=>exact⟨i+1,(c+0+y)/B,_,oM,by rw[bM];go_num,by go_num,HST.out,HX.out.1,HX.out.2⟩
theorem hZL(v1 v2:Value)(l1 l2:List Nat)(w:World)(h1:Mg w v1 l1)(h2:Mg w v2 l2)(hl1:l1.length≤1099511627776)(hl2:l2.length≤l1.length)(hle:val l2≤val l1):
  Calls Tryz.prog 163 #[v1,v2] w (wX (val l1-val l2) l1.length w):=by
 obtain⟨i0,hi,hx⟩:=Option.map_eq_some_iff.1 cZe;simp only[Prod.mk.injEq] at hx;obtain⟨hz0,hz1,hz2⟩:=hx;have H1:=Lib.hid h1;have H2:=Lib.hid h2;obtain⟨a1,cap1,rfl,_,_,_,_⟩:=h1.form;obtain⟨a2,cap2,rfl,_,_,_,_⟩:=h2.form;clear h1 h2;have HLE:=Lib.hid hle;clear hle;go_enter Tryz.func163,Tryz.ntmps163
 go_wp2_with fail
 go_loopg [5,6,7,8] l1.length (fun g s5 s6 s7 s8 wr=>∃(i b:Nat) (O:List Nat),i+g=l1.length∧s6= .int .u64 b∧s7= .int .i64 i∧DifInv l1 l2 i O b∧wr.ownsRow w.heap.size 168 1 s5 O.length (bJ O)∧Below w.heap.size w wr)
 case atStart=>exact⟨0,0,[],oM,rfl,rfl,DifInv.start _ _,World.ownsRow_nil _ _ _ _,Below.refl _ _⟩
 case round=>
  obtain⟨i,b,O,hig,rfl,rfl,hI,hown,hbel⟩:=hrel;have hb1:b≤1:=hI.2.2.1;have hOlen:O.length≤1099511627776:=by have:=hI.1;omega
  have HOl:=Lib.hid hI.1;have hsz:=hbel.size;obtain⟨wo,rfl⟩:∃wo:World,wo=wr:=⟨_,rfl⟩;have HO:=Lib.hid hown;have HBe:=Lib.hid hbel;cases gk with
  |zero=>
   have hn1:¬(i:Int)<(l1.length:Int):=oM;have HE:=Lib.hid (hI.done oM oM HLE.out);clear hown hbel hI;go_wp2_with fail
   go_ret
   exact⟨O,_,rfl,HO.out,HE.out.1,HE.out.2,by have:=HOl.out;omega,HBe.out⟩
  |succ g=>
   have hst:=hI.step H1.out.2 H2.out.2;have hgetx:=kV H1.out.2 i;have hgety:=kV H2.out.2 i;rw[bM] at hgetx hgety;have hways:∃x y:Nat,l1[i]?.getD 0=x∧l2[i]?.getD 0=y∧l1[i]? =some x∧((i<l2.length∧l2[i]? =some y)∨(¬i<l2.length∧y=0)):=by
    refine⟨_,_,rfl,rfl,by rw[List.getElem?_eq_getElem (show i<l1.length by omega)];rfl,?_⟩
    by_cases c2:i<l2.length
    ·left;exact⟨c2,by rw[List.getElem?_eq_getElem c2];rfl⟩
    ·right;exact⟨c2,by rw[List.getElem?_eq_none oM];rfl⟩
   obtain⟨x,y,ex,ey,g1,hways⟩:=hways;rw[ex,ey] at hst;rw[ex] at hgetx;rw[ey] at hgety;clear ex ey hI;have f1:=H1.out.below hbel;have f2:=H2.out.below hbel;obtain⟨a1',cap1',hv1,_,_,_,hr1⟩:=f1.form;obtain⟨a2',cap2',hv2,_,_,_,hr2⟩:=f2.form;injection hv1 with e1 e2 e3
   injection hv2 with e4 e5 e6
   subst e1 e3 e4 e6;obtain⟨p1,off1,rfl,hp1,hcl1⟩:=hr1 oM;have c1:=hcl1 i x g1;have qi1:(i:Int)<(l1.length:Int):=oM;have G1:=Lib.hid g1;clear e2 e5 f1 f2 hown hbel hcl1 g1 hr1;have hlt:x<b+y∨¬x<b+y:=oM;rcases hways with⟨q2,g2⟩|⟨q2,rfl⟩
   ·obtain⟨p2,off2,rfl,hp2,hcl2⟩:=hr2 oM
    have c2:=hcl2 i y g2;have qi2:(i:Int)<(l2.length:Int):=oM;clear hcl2 hr2 g2;rcases hlt with hlt|hlt
    ·have HST:Hid (DifInv l1 l2 (i+1) (O++[x+B-(b+y)]) 1):=by unfold iQ lE at hst;rwa[if_pos hlt,if_pos hlt] at hst
     have hlti:(x:Int)<(b:Int)+(y:Int):=oM;clear hst;have HA3y0:Hid (O.length+1≤maxLen):=by show _≤_;unfold maxLen;omega
     have HA4y0:Hid ((O.length+1)*4≤140737488355328):=by show _≤_;omega
     go_wp2_with (at_builtin;refine wpList_append_own _ rfl _ _ 30 rfl w.heap.size 168 i0 (.int .u32 0) 1 4 Tryz.underlying30 hi hz0 hz1 hz2 rfl aD _ _ _ rfl (HO.out.alloc _) ⟨wo.heap.size,0,none⟩ 1 1 [_] rfl rfl (cell_one_new _ _ _) (kQ _) HA3y0.out HA4y0.out (dP hsz _) ?_)
     intro vy0 wy0 howny0 hgrowy0 _;have HX:Hid (wy0.ownsRow w.heap.size 168 1 vy0 (O++[x+B-(b+y)]).length (bJ (O++[x+B-(b+y)]))∧Below w.heap.size w wy0):=
      ⟨fL howny0 (by (try rw[IntKind.wrap_u64]);(try rw[bM]);omega),(HBe.out.alloc hsz _).grown hgrowy0 (dP hsz _) fun k hk=>(HO.out.lt k hk).1⟩
     have hcc1:wy0.cell? ⟨p1,off1+i,none⟩=some (.int .u32 (x:Nat)):=by
      exact(H1.out.below HX.out.2).cell G1.out
     clear howny0 hgrowy0;go_wp2_with fail
     go_roundg g
     case measure=>omega
     case rel=>exact⟨i+1,1,_,oM,rfl,by go_num,HST.out,HX.out.1,HX.out.2⟩
    ·have HST:Hid (DifInv l1 l2 (i+1) (O++[x-(b+y)]) 0):=by unfold iQ lE at hst;rwa[if_neg hlt,if_neg hlt] at hst
     have hlti:¬(x:Int)<(b:Int)+(y:Int):=oM;clear hst;have HA3y1:Hid (O.length+1≤maxLen):=by show _≤_;unfold maxLen;omega
     have HA4y1:Hid ((O.length+1)*4≤140737488355328):=by show _≤_;omega
     go_wp2_with (at_builtin;refine wpList_append_own _ rfl _ _ 30 rfl w.heap.size 168 i0 (.int .u32 0) 1 4 Tryz.underlying30 hi hz0 hz1 hz2 rfl aD _ _ _ rfl (HO.out.alloc _) ⟨wo.heap.size,0,none⟩ 1 1 [_] rfl rfl (cell_one_new _ _ _) (kQ _) HA3y1.out HA4y1.out (dP hsz _) ?_)
     intro vy1 wy1 howny1 hgrowy1 _;have HX:Hid (wy1.ownsRow w.heap.size 168 1 vy1 (O++[x-(b+y)]).length (bJ (O++[x-(b+y)]))∧Below w.heap.size w wy1):=
      ⟨fL howny1 (by (try rw[IntKind.wrap_u64]);(try rw[bM]);omega),(HBe.out.alloc hsz _).grown hgrowy1 (dP hsz _) fun k hk=>(HO.out.lt k hk).1⟩
     have hcc1:wy1.cell? ⟨p1,off1+i,none⟩=some (.int .u32 (x:Nat)):=by
      exact(H1.out.below HX.out.2).cell G1.out
     clear howny1 hgrowy1;go_wp2_with fail
     go_roundg g
     case measure=>omega
     case rel=>exact⟨i+1,0,_,oM,rfl,by go_num,HST.out,HX.out.1,HX.out.2⟩
   ·have qi2:¬(i:Int)<(l2.length:Int):=oM
    clear hr2;rcases hlt with hlt|hlt
    ·have HST:Hid (DifInv l1 l2 (i+1) (O++[x+B-(b+0)]) 1):=by unfold iQ lE at hst;rwa[if_pos hlt,if_pos hlt] at hst
     have hlti:(x:Int)<(b:Int):=oM;clear hst;have HA3y2:Hid (O.length+1≤maxLen):=by show _≤_;unfold maxLen;omega
     have HA4y2:Hid ((O.length+1)*4≤140737488355328):=by show _≤_;omega
     go_wp2_with (at_builtin;refine wpList_append_own _ rfl _ _ 30 rfl w.heap.size 168 i0 (.int .u32 0) 1 4 Tryz.underlying30 hi hz0 hz1 hz2 rfl aD _ _ _ rfl (HO.out.alloc _) ⟨wo.heap.size,0,none⟩ 1 1 [_] rfl rfl (cell_one_new _ _ _) (kQ _) HA3y2.out HA4y2.out (dP hsz _) ?_)
     intro vy2 wy2 howny2 hgrowy2 _;have HX:Hid (wy2.ownsRow w.heap.size 168 1 vy2 (O++[x+B-(b+0)]).length (bJ (O++[x+B-(b+0)]))∧Below w.heap.size w wy2):=
      ⟨fL howny2 (by (try rw[IntKind.wrap_u64]);(try rw[bM]);omega),(HBe.out.alloc hsz _).grown hgrowy2 (dP hsz _) fun k hk=>(HO.out.lt k hk).1⟩
     have hcc1:wy2.cell? ⟨p1,off1+i,none⟩=some (.int .u32 (x:Nat)):=by
      exact(H1.out.below HX.out.2).cell G1.out
     clear howny2 hgrowy2;go_wp2_with fail
     go_roundg g
     case measure=>omega
     case rel=>exact⟨i+1,1,_,oM,rfl,by go_num,HST.out,HX.out.1,HX.out.2⟩
    ·have HST:Hid (DifInv l1 l2 (i+1) (O++[x-(b+0)]) 0):=by unfold iQ lE at hst;rwa[if_neg hlt,if_neg hlt] at hst
     have hlti:¬(x:Int)<(b:Int):=oM;clear hst;have HA3y3:Hid (O.length+1≤maxLen):=by show _≤_;unfold maxLen;omega
     have HA4y3:Hid ((O.length+1)*4≤140737488355328):=by show _≤_;omega
     go_wp2_with (at_builtin;refine wpList_append_own _ rfl _ _ 30 rfl w.heap.size 168 i0 (.int .u32 0) 1 4 Tryz.underlying30 hi hz0 hz1 hz2 rfl aD _ _ _ rfl (HO.out.alloc _) ⟨wo.heap.size,0,none⟩ 1 1 [_] rfl rfl (cell_one_new _ _ _) (kQ _) HA3y3.out HA4y3.out (dP hsz _) ?_)
     intro vy3 wy3 howny3 hgrowy3 _;have HX:Hid (wy3.ownsRow w.heap.size 168 1 vy3 (O++[x-(b+0)]).length (bJ (O++[x-(b+0)]))∧Below w.heap.size w wy3):=
      ⟨fL howny3 (by (try rw[IntKind.wrap_u64]);(try rw[bM]);omega),(HBe.out.alloc hsz _).grown hgrowy3 (dP hsz _) fun k hk=>(HO.out.lt k hk).1⟩
     have hcc1:wy3.cell? ⟨p1,off1+i,none⟩=some (.int .u32 (x:Nat)):=by
      exact(H1.out.below HX.out.2).cell G1.out
     clear howny3 hgrowy3;go_wp2_with fail
     go_roundg g
     case measure=>omega
     case rel=>exact⟨i+1,0,_,oM,rfl,by go_num,HST.out,HX.out.1,HX.out.2⟩
end
end Go.Proofs.YtfmjdlogjmofbaaGreatDoor
namespace Go.Proofs.YtfmjdlogjmofbaaGreatDoor.Limb
def DblInv(l:List Nat)(c0:Nat)(i:Nat)(O:List Nat)(c:Nat):Prop:=O.length=i∧Lm O∧c≤1∧val O+B^i*c=2*val (l.take i)+c0
theorem DblInv.start(l:List Nat){c0:Nat}(h:c0≤1):DblInv l c0 0 [] c0:=⟨rfl,Lm.nil,h,by simp[val]⟩
theorem DblInv.step{l:List Nat}{c0 i:Nat}{O:List Nat}{c x:Nat}(hl:Lm l)(h:DblInv l c0 i O c)(hx:l[i]? =some x):
  DblInv l c0 (i+1) (O++[(2*x)%B+c]) (x/2147483648):=by
 obtain⟨a1,a2,a3,a4⟩:=h;have b1:=hl.get hx;refine⟨by simp[a1],gE a2 (by rw[bM] at*;omega),by rw[bM] at b1;omega,?_⟩
 rw[eX,bH,a1,hx,Option.getD_some];have:B^i*((2*x)%B+c)+B^(i+1)*(x/2147483648)=B^i*(2*x+c):=by
  rw[Nat.pow_succ,Nat.mul_assoc,←Nat.mul_add];congr 1
  rw[bM] at*;omega
 rw[Nat.add_assoc,this,Nat.mul_add,Nat.mul_add,Nat.mul_left_comm (B^i) 2 x];omega
theorem DblInv.done{l:List Nat}{c0 i:Nat}{O:List Nat}{c:Nat}(h:DblInv l c0 i O c)(h1:l.length≤i):Lm (O++[c])∧val (O++[c])=2*val l+c0:=by
 obtain⟨a1,a2,a3,a4⟩:=h;refine⟨gE a2 (by rw[bM];omega),?_⟩
 rw[eX,a1,a4,List.take_of_length_le h1]
end Go.Proofs.YtfmjdlogjmofbaaGreatDoor.Limb
namespace Go.Proofs.YtfmjdlogjmofbaaGreatDoor
section
open Go.RowKit Limb
theorem oZL(x c:Nat)(hc:c≤1):bits .or .u32 ((x:Int)*2%4294967296) (c:Int)=(((2*x)%B+c:Nat):Int):=by
 rw[u32_or _ _ oM oM oM oM];have e1:((x:Int)*2%4294967296).toNat=(2*x)%B:=by rw[bM];omega
 rw[e1,Int.toNat_natCast,nat_join 1 _ _ (by rw[bM];omega) oM]
theorem cZA(v1:Value)(l:List Nat)(c0:Nat)(w:World)(h1:Mg w v1 l)(hl1:l.length≤1099511627776)(hc0:c0≤1):
  Calls Tryz.prog 180 #[v1,.int .u32 c0] w (wX (2*val l+c0) (l.length+1) w):=by
 obtain⟨i0,hi,hx⟩:=Option.map_eq_some_iff.1 cZe;simp only[Prod.mk.injEq] at hx;obtain⟨hz0,hz1,hz2⟩:=hx;have H1:=Lib.hid h1;obtain⟨a1,cap1,rfl,_,_,_,_⟩:=h1.form;clear h1;go_enter Tryz.func180,Tryz.ntmps180
 go_wp2_with fail
 go_loopg [1,5,7,10] l.length (fun g s1 s5 s7 s10 wr=>∃(i c:Nat) (O:List Nat),i+g=l.length∧s1= .int .u32 c∧s10= .int .i64 i∧DblInv l c0 i O c∧wr.ownsRow w.heap.size 168 1 s5 O.length (bJ O)∧Below w.heap.size w wr)
 case atStart=>exact⟨0,c0,[],oM,rfl,rfl,DblInv.start _ hc0,World.ownsRow_nil _ _ _ _,Below.refl _ _⟩
 case round=>
  obtain⟨i,c,O,hig,rfl,rfl,hI,hown,hbel⟩:=hrel;have hc1:c≤1:=hI.2.2.1;have hOlen:O.length≤1099511627776:=by have:=hI.1;omega
  have HOl:=Lib.hid hI.1;have hsz:=hbel.size;obtain⟨wo,rfl⟩:∃wo:World,wo=wr:=⟨_,rfl⟩;have HO:=Lib.hid hown;have HBe:=Lib.hid hbel;cases gk with
  |zero=>
   have hn1:¬(i:Int)<(l.length:Int):=oM;have HE:=Lib.hid (hI.done oM);clear hown hbel hI;have HA3x:Hid (O.length+1≤maxLen):=by show _≤_;unfold maxLen;omega
   have HA4x:Hid ((O.length+1)*4≤140737488355328):=by show _≤_;omega
   go_wp2_with (at_builtin;refine wpList_append_own _ rfl _ _ 30 rfl w.heap.size 168 i0 (.int .u32 0) 1 4 Tryz.underlying30 hi hz0 hz1 hz2 rfl aD _ _ _ rfl (HO.out.alloc _) ⟨wo.heap.size,0,none⟩ 1 1 [_] rfl rfl (cell_one_new _ _ _) (kQ _) HA3x.out HA4x.out (dP hsz _) ?_)
   intro vx wx hownx hgrowx _;have HX:Hid (wx.ownsRow w.heap.size 168 1 vx (O++[c]).length (bJ (O++[c]))∧Below w.heap.size w wx):=
    ⟨fL hownx rfl,(HBe.out.alloc hsz _).grown hgrowx (dP hsz _) fun k hk=>(HO.out.lt k hk).1⟩
   clear hownx hgrowx;go_wp2_with fail
   go_ret
   exact⟨O++[c],_,rfl,HX.out.1,HE.out.1,HE.out.2,by have:=HOl.out;rw[List.length_append,List.length_singleton];omega,HX.out.2⟩
  |succ g=>
   obtain⟨x,hx⟩:∃x,l[i]? =some x:=⟨_,List.getElem?_eq_getElem oM⟩;have HST:=Lib.hid (hI.step H1.out.2 hx);have hxB:=H1.out.2.get hx;rw[bM] at hxB;have f1:=H1.out.below hbel;obtain⟨a1',cap1',hv1,_,_,_,hr1⟩:=f1.form;injection hv1 with e1 e2 e3
   subst e1 e3;obtain⟨p1,off1,rfl,hp1,hcl1⟩:=hr1 oM;have c1:=hcl1 i x hx;have qi1:(i:Int)<(l.length:Int):=oM;clear e2 f1 hown hbel hcl1 hr1 hx hI;have HA3y:Hid (O.length+1≤maxLen):=by show _≤_;unfold maxLen;omega
   have HA4y:Hid ((O.length+1)*4≤140737488355328):=by show _≤_;omega
   go_wp2_with (at_builtin;refine wpList_append_own _ rfl _ _ 30 rfl w.heap.size 168 i0 (.int .u32 0) 1 4 Tryz.underlying30 hi hz0 hz1 hz2 rfl aD _ _ _ rfl (HO.out.alloc _) ⟨wo.heap.size,0,none⟩ 1 1 [_] rfl rfl (cell_one_new _ _ _) (kQ _) HA3y.out HA4y.out (dP hsz _) ?_)
   intro vy wy howny hgrowy _;have HX:Hid (wy.ownsRow w.heap.size 168 1 vy (O++[(2*x)%B+c]).length (bJ (O++[(2*x)%B+c]))∧Below w.heap.size w wy):=
    ⟨fL howny (oZL x c hc1),(HBe.out.alloc hsz _).grown hgrowy (dP hsz _) fun k hk=>(HO.out.lt k hk).1⟩
   clear howny hgrowy;go_wp2_with fail
   go_roundg g
   case measure=>omega
   case rel=>exact⟨i+1,x/2147483648,_,oM,by go_num,by go_num,HST.out,HX.out.1,HX.out.2⟩
theorem oZK(u x:Nat)(hu:u<4294967296)(hx:x<4294967296):bits .or .u64 (u:Int) ((x:Int)*4294967296)=((u+B*x:Nat):Int):=by
 rw[u64_or _ _ oM oM oM oM];have e1:((x:Int)*4294967296).toNat=B*x:=by rw[bM];omega
 rw[e1,Int.toNat_natCast,Nat.or_comm,nat_join 32 _ _ (by rw[bM];omega) oM,Nat.add_comm]
theorem lZC(x:Nat)(hx:x<4294967296):bits .or .u64 0 (x:Int)=(x:Int):=by
 rw[u64_or _ _ oM oM oM oM];simp
theorem wY(v1:Value)(l:List Nat)(w:World)(h1:Mg w v1 l)(hl1:l.length≤2):
  Calls Tryz.prog 61 #[v1] w fun e w'=>e= .returned (.int .u64 (val l:Nat))∧w=w':=by
 have HL:=Lib.hid h1.2;obtain⟨a1,cap1,rfl,_,_,_,hr⟩:=h1.form;have HR:=Lib.hid hr;clear hr h1;go_enter Tryz.func61,Tryz.ntmps61
 go_wp2_with fail
 go_loopg [3,4] l.length (fun g s3 s4 wr=>∃(i u:Nat),i+g=l.length∧s3= .int .u64 u∧s4= .int .i64 i∧u=val (l.take i)∧w=wr)
 case atStart=>exact⟨0,0,oM,rfl,rfl,by simp[val],rfl⟩
 case round=>
  obtain⟨i,u,hig,rfl,rfl,hu,rfl⟩:=hrel;have HU:=Lib.hid hu;clear hu;cases gk with
  |zero=>
   have hn1:¬(i:Int)<(l.length:Int):=oM;have HE:Hid (u=val l):=by show u=val l;rw[HU.out,List.take_of_length_le oM]
   go_wp2_with fail
   go_ret
   exact⟨lV (by rw[HE.out]),rfl⟩
  |succ g=>
   obtain⟨x,hx⟩:∃x,l[i]? =some x:=⟨_,List.getElem?_eq_getElem oM⟩;have hxB:=HL.out.get hx;rw[bM] at hxB;obtain⟨b,off,rfl,hb,hc⟩:=HR.out oM;have c1:=hc i x hx;have hqi:(i:Int)<(l.length:Int):=oM;have HST:Hid (u+B^i*x=val (l.take (i+1))):=by show _=_;rw[bH,hx,HU.out];rfl
   clear hc hx;rcases(show i=0∨i=1 by omega) with h0|h0
   ·subst h0
    obtain rfl:u=0:=by have:=HU.out;simpa [val] using this
    simp only[Nat.add_zero] at c1;go_wp2_with fail
    go_roundg g
    case measure=>omega
    case rel=>exact⟨1,x,oM,by rw[lZC x hxB],rfl,by have:=HST.out;simpa using this,rfl⟩
   ·subst h0
    have hu:u<4294967296:=by
     have:=HU.out;have h1:=fE (HL.out.take 1);rw[←this,List.length_take,bM] at h1;have:(4294967296:Nat)^min 1 l.length≤4294967296:=by
      rw[Nat.min_eq_left oM];decide
     omega
    go_wp2_with fail
    go_roundg g
    case measure=>omega
    case rel=>exact⟨2,u+B*x,oM,by rw[oZK u x hu hxB],rfl,by have:=HST.out;simpa using this,rfl⟩
end
section
open Go.RowKit Limb
theorem vK{l:List Nat}{k:Nat}(h:l.length≤k)(hl:Lm l):(aE (val l)).length≤k:=Nat.le_trans (cN (fE hl)) h
end
section
open Go.RowKit Limb
theorem oZw(z:Int):sz (-z)=sz z:=by unfold sz;rw[Int.natAbs_neg]
end
section
open Go.RowKit Limb
def nZk(x y:Nat)(w:World)(e:Ending)(w':World):Prop:=
 ∃a n cap a' n' cap',e= .returned (.tuple #[.slice a n cap,.slice a' n' cap'])∧Mg w' (.slice a n cap) (aE (x/y))∧Mg w' (.slice a' n' cap') (aE (x%y))∧n=(aE (x/y)).length∧n'=(aE (x%y)).length∧Fr w.heap.size a∧Fr w.heap.size a'∧Below w.heap.size w w'
def oZf(x y:Nat):Prop:=∀(W:World) (v1 v2:Value),Mg W v1 (aE x)→Mg W v2 (aE y)→Calls Tryz.prog 161 #[v1,v2] W (nZk x y W)
theorem xE{l:List Nat}(h:Lm l)(hl:l.length≤2):val l<18446744073709551616:=by
 have h1:=fE h;have:B^l.length≤B^2:=Nat.pow_le_pow_right dD hl;have e:B^2=18446744073709551616:=by decide
 omega
theorem lZn(s:Bool)(a:Option Addr)(n cap:Nat)(w:World):Sem.run Tryz.prog (Instr.field 32 (.agg #[.bool s,.slice a n cap]) 1) w= .ok (.slice a n cap) w:=by kernel_rfl
attribute [local go_sem] lZn
theorem aZf(x y:Nat)(hy:y≠0)(hx2:(aE x).length≤2)(hy2:(aE y).length≤2):oZf x y:=by
 intro w v1 v2 h1 h2;have hyi:((y:Int)==0)=false:=by rw[beq_eq_false_iff_ne];omega
 have hx2i:((aE x).length:Int)≤2:=oM;have hy2i:((aE y).length:Int)≤2:=oM;have hypos:(0:Int)<(y:Int):=oM;have bx:=xE (aJ x) hx2;have by':=xE (aJ y) hy2
 rw[aN] at bx by'
 have L1:=Lib.hid (wY v1 _ w h1 hx2);have L2:=Lib.hid (wY v2 _ w h2 hy2);rw[aN] at L1 L2;have hq:x/y<18446744073709551616:=Nat.lt_of_le_of_lt (Nat.div_le_self _ _) bx;have hr:x%y<18446744073709551616:=Nat.lt_of_le_of_lt (Nat.mod_le _ _) bx;have W1:Hid (∀W (z:Int),z=((x/y:Nat):Int)→Calls Tryz.prog 103 #[.bool false,.int .u64 z] W (tK ((x/y:Nat):Int) W)):=Lib.hid (fun W z hz=>by rw[hz];exact pH false (x/y) W ((x/y:Nat):Int) hq rfl)
 have W2:Hid (∀W (z:Int),z=((x%y:Nat):Int)→Calls Tryz.prog 103 #[.bool false,.int .u64 z] W (tK ((x%y:Nat):Int) W)):=Lib.hid (fun W z hz=>by rw[hz];exact pH false (x%y) W ((x%y:Nat):Int) hr rfl)
 have e1:Hid (IntKind.u64.wrap ((x:Int)/(y:Int))=((x/y:Nat):Int)):=by
  show _=_
  rw[←Int.natCast_ediv];exact IntWalk.u64_in _ ⟨Int.natCast_nonneg _,oM⟩
 have e2:Hid (IntKind.u64.wrap ((x:Int)%(y:Int))=((x%y:Nat):Int)):=by
  show _=_
  rw[←Int.natCast_emod];exact IntWalk.u64_in _ ⟨Int.natCast_nonneg _,oM⟩
 have HB0:=Lib.hid (Below.refl w.heap.size w);obtain⟨a1,cap1,rfl,qa1,qa2,qa3,qa4⟩:=h1.form;clear qa1 qa2 qa3 qa4;obtain⟨a2,cap2,rfl,qa1,qa2,qa3,qa4⟩:=h2.form;clear qa1 qa2 qa3 qa4;clear h1 h2;have tok1:True:=trivial;go_enter Tryz.func161,Tryz.ntmps161
 go_wp2_with (first|(go_at_call 61;have _t:=tok1;clear tok1;refine L1.out.mono ?_;rintro e w' ⟨rfl,rfl⟩)|(go_at_call 61;refine L2.out.mono ?_;rintro e w' ⟨rfl,rfl⟩))
 have tok1:True:=trivial;go_region_held3 (fun W=>True) (((try dsimp only);(repeat' apply And.intro)<;>(first|assumption|go_keep|(go_split_ands;(repeat(first|rw[cs_other (by first|omega|(simp;done)|(simp;omega))]|rw[ca_past (by first|omega|(simp;done)|(simp;omega))]|rw[ca_drew]));assumption))))
  (first|(go_at_call 103;have _t:=tok1;clear tok1;refine(W1.out _ _ ?_).mono ?_;exact e1.out;rintro e w1 ⟨s1,a1,n1,cap1,rfl,hz1,hfr1,hb1⟩;have HZ1:=Lib.hid hz1;have HFr1:=Lib.hid hfr1;clear hz1 hfr1;obtain⟨hc1,hf1⟩:=sZ hb1;have hs1:=hb1.size;(try simp at hs1);have HB1:=Lib.hid (fU HB0.out.drew hb1 (by first|omega|(simp;done)|(simp;omega)));clear hc1 hf1)|(go_at_call 103;refine(W2.out _ _ ?_).mono ?_;exact(by rw[Int.natCast_emod];exact Int.tmod_eq_emod_of_nonneg (Int.natCast_nonneg _));rintro e w2 ⟨s2,a2,n2,cap2,rfl,hz2,hfr2,hb2⟩;have HZ2:=Lib.hid hz2;have HFr2:=Lib.hid hfr2;clear hz2 hfr2;obtain⟨hc2,hf2⟩:=sZ hb2;have hs2:=hb2.size;(try simp at hs2);have HB2:=Lib.hid (fU HB1.out hb2 (by first|omega|(simp;done)|(simp;omega)));clear hc2 hf2))
 go_wp2
 go_ret2
 refine⟨_,_,_,_,_,_,rfl,HZ1.out.2.2.below hb2,HZ2.out.2.2,HZ1.out.2.1,HZ2.out.2.1,HFr1.out.mono (by first|omega|(simp;done)|(simp;omega)),HFr2.out.mono (by first|omega|(simp;done)|(simp;omega)),HB2.out⟩
end
section
open Go.RowKit Limb
theorem kL{h:GH}{w:World}(hh:Holds h w){v:Value}{l:List Nat}(hm:(mag l).p h v):Mg w v l:=by
 obtain⟨⟨a,cap,h1,h2,h3,h4⟩,h5⟩:=hm;refine⟨⟨a,cap,h1,h2,h3,fun hx=>?_⟩,h5⟩;have hl:l≠[]:=by rintro rfl;exact hx rfl
 obtain⟨b,off,e,hc⟩:=h4 hl;have hlt:b<w.heap.size:=by
  obtain⟨x,hx⟩:=List.exists_mem_of_ne_nil l hl;obtain⟨j,hj⟩:=List.getElem?_of_mem hx;exact hh.lt (hc j x hj)
 refine⟨b,off,e,hlt,fun j u hu=>?_⟩;simp only[bJ,List.getElem?_map,Option.map_eq_some_iff] at hu;obtain⟨x,hx,rfl⟩:=hu;exact hh _ _ _ (hc j x hx)
theorem yP{h:GH}{w w':World}{a:Option Addr}{n cap:Nat}{l:List Nat}(hm:Mg w' (.slice a n cap) l)(hf:Fr w.heap.size a):(mag l).p (pub w w' h) (.slice a n cap):=by
 obtain⟨⟨a',cap',h1,h2,h3,h4⟩,h5⟩:=hm;injection h1 with e1 e2 e3
 subst e1 e2 e3;refine⟨⟨a,cap,rfl,h2,h3,fun hl=>?_⟩,h5⟩;obtain⟨b,off,e,_,hc⟩:=h4 (fun e=>hl (by have:=congrArg List.length e;rw[gZ] at this;exact List.length_eq_zero_iff.1 this))
 refine⟨b,off,e,fun j x hx=>?_⟩;rw[fZQ (hf _ e)];exact hc j _ (mP hx)
theorem eZw{h:GH}{w:World}(hh:Holds h w){v:Value}{s:Bool}{l:List Nat}(hz:(zR s l).p h v):∃a cap,v= .agg #[.bool s,.slice a l.length cap]∧IsZ w s a l.length cap (zv s l) l.length:=by
 obtain⟨vs,rfl,ha⟩:=hz;obtain⟨u,x,rfl,hu,hx,_,_⟩:=ha.two;have hu:u= .bool s:=hu;subst hu;obtain⟨⟨a,cap,e,hr⟩,hl⟩:=hx;subst e;exact⟨a,cap,rfl,l,rfl,kL hh ⟨⟨a,cap,rfl,hr⟩,hl⟩,Nat.le_refl _,rfl⟩
theorem pZC{h:GH}{w w':World}{s:Bool}{a:Option Addr}{n cap:Nat}{z:Int}(hc:Can w' s a n cap z)(hf:Fr w.heap.size a):(zC z).p (pub w w' h) (.agg #[.bool s,.slice a n cap]):=by
 obtain⟨rfl,_,h3⟩:=hc;exact⟨[.bool _,.slice a n cap],rfl,rfl,rfl,yP h3 hf,rfl,trivial⟩
theorem rM{h:GH}{w w':World}{z:Int}{e:Ending}(hh:Holds h w)(hp:tK z w e w'):rL h w (zC z) e w':=by
 obtain⟨s,a,n,cap,rfl,hc,hf,hb⟩:=hp;exact jR hh hb (pZC hc hf)
theorem iZX{h:GH}{w w':World}{l:List Nat}{e:Ending}(hl:Lm l)(hh:Holds h w)(hp:oZd w l e w'):rL h w (mag l) e w':=by
 obtain⟨v,rfl,hown,hb⟩:=hp;have hm:=Mg.of_owns hown hl;obtain⟨a,cap,rfl,_⟩:=hm.form;exact jR hh hb (yP hm (Fr.of_owns hown))
theorem nZE{h:GH}{w w':World}{v:Value}{e:Ending}(hh:Holds h w)(he:e= .returned v)(hb:Below w.heap.size w w'):rL h w (ex v) e w':=by subst he;exact jR hh hb rfl
def hZb(x k:Nat):Pd:=⟨fun h v=>∃l,val l=x∧l.length≤k∧(mag l).p h v,fun _ _ _ hl ⟨l,h1,h2,h3⟩=>⟨l,h1,h2,(mag l).mono _ _ _ hl h3⟩⟩
theorem qW{h:GH}{w w':World}{x k:Nat}{e:Ending}(hh:Holds h w)(hp:wX x k w e w'):rL h w (hZb x k) e w':=by
 obtain⟨l,v,rfl,hown,hlm,hval,hlen,hb⟩:=hp;have hm:=Mg.of_owns hown hlm;obtain⟨a,cap,rfl,_⟩:=hm.form;exact jR hh hb ⟨l,hval,hlen,yP hm (Fr.of_owns hown)⟩
section
variable(En:Ev)
theorem qQ(l:List Nat)(hl:l.length≤1099511627776):Fn PZ En 60 [mag l] (mag (aE (val l))):=by
 intro h w vs _ hh ha;obtain⟨v,rfl,hv⟩:=ha.one;exact(tM v l w (kL hh hv) hl).mono fun _ _ hp=>iZX (aJ _) hh hp
theorem dZI(neg:Bool)(l:List Nat)(hl:l.length≤1099511627776):Fn PZ En 123 [ex (.bool neg),mag l] (zC (zv neg l)):=by
 intro h w vs _ hh ha;obtain⟨v,u,rfl,hv,hu⟩:=ha.two;have hv:v= .bool neg:=hv;subst hv;exact(pJ neg u l w (zv neg l) (kL hh hu) hl rfl).mono fun _ _ hp=>rM hh hp
theorem iH(n:Int)(h1: -9223372036854775808≤n)(h2:n≤9223372036854775807):Fn PZ En 45 [i6 n] (zC n):=by
 intro h w vs _ hh ha;obtain⟨v,rfl,hv⟩:=ha.one;have hv:v= .int .i64 n:=hv;subst hv;exact(eZs n w h1 h2).mono fun _ _ hp=>rM hh hp
theorem fabs(s:Bool)(l:List Nat)(hl:l.length≤1099511627776):Fn PZ En 151 [zR s l] (zC ((zv s l).natAbs:Int)):=by
 intro h w vs _ hh ha;obtain⟨v,rfl,hv⟩:=ha.one;obtain⟨a,cap,rfl,hz⟩:=eZw hh hv;exact(hZN s a _ cap _ _ w hz hl).mono fun _ _ hp=>rM hh hp
theorem aZX(s:Bool)(l:List Nat)(hl:l.length≤1099511627776):Fn PZ En 62 [zR s l] (i6 (sg3 (zv s l))):=by
 intro h w vs _ hh ha;obtain⟨v,rfl,hv⟩:=ha.one;obtain⟨a,cap,rfl,hz⟩:=eZw hh hv;exact(gZJ s a _ cap _ _ w hz hl).mono fun _ _ ⟨he,hb⟩=>nZE hh he hb
theorem mZl(x y:Nat)(hd:oZf x y):Fn PZ En 161 [mag (aE x),mag (aE y)] (dK [mag (aE (x/y)),mag (aE (x%y))]):=by
 intro h w vs _ hh ha;obtain⟨v,u,rfl,hv,hu⟩:=ha.two;refine(hd w v u (kL hh hv) (kL hh hu)).mono ?_;rintro e w' ⟨a,n,cap,a',n',cap',rfl,h1,h2,rfl,rfl,f1,f2,hb⟩;exact jR hh hb ⟨[_,_],rfl,yP h1 f1,yP h2 f2,trivial⟩
end
end
section
open Go.RowKit Limb
instance:CMix Tryz.prog:=⟨by kernel_rfl⟩
instance:CBool Tryz.prog 4:=⟨Tryz.underlying4⟩
instance:CSlice Tryz.prog 30 168:=⟨Tryz.underlying30⟩
instance:CElem Tryz.prog 30 168 1:=⟨Tryz.underlying30,by kernel_rfl⟩
instance:CZero1 Tryz.prog 168 (.int .u32 0) 4:=⟨by kernel_rfl,rfl⟩
instance:COne Tryz.prog 168:=⟨⟨_,Tryz.underlying168,rfl,by kernel_rfl⟩⟩
instance:COne Tryz.prog 4:=⟨⟨_,Tryz.underlying4,rfl,by kernel_rfl⟩⟩
instance:COne Tryz.prog 30:=⟨⟨_,Tryz.underlying30,rfl,by kernel_rfl⟩⟩
instance:CInt Tryz.prog 168 .u32:=⟨Tryz.underlying168⟩
instance:CInt Tryz.prog 114 .u64:=⟨Tryz.underlying114⟩
instance:CInt Tryz.prog 2 .i64:=⟨Tryz.underlying2⟩
instance:CInt Tryz.prog 3 .i64:=⟨Tryz.underlying3⟩
instance kb95:CBody PZ 95:=cB Tryz.func95
instance kb134:CBody PZ 134:=cB Tryz.func134
instance kb144:CBody PZ 144:=cB Tryz.func144
instance kb94:CBody PZ 94:=cB Tryz.func94
instance kb171:CBody PZ 171:=cB Tryz.func171
instance kb172:CBody PZ 172:=cB Tryz.func172
instance kb97:CBody PZ 97:=cB Tryz.func97
instance kb170:CBody PZ 170:=cB Tryz.func170
instance kb125:CBody PZ 125:=cB Tryz.func125
instance kb190:CBody PZ 190:=cB Tryz.func190
instance kb189:CBody PZ 189:=cB Tryz.func189
instance kb191:CBody PZ 191:=cB Tryz.func191
theorem w64{n:Int}(h1: -9223372036854775808≤n)(h2:n≤9223372036854775807):IntKind.i64.wrap n=n:=IntWalk.i64_in _ ⟨h1,h2⟩
theorem fC{n:Int}(h1:0≤n)(h2:n<18446744073709551616):IntKind.u64.wrap n=n:=IntWalk.u64_in _ ⟨h1,oM⟩
section
variable(En:Ev)
theorem iE(l:List Nat)(hl:Lm l)(hlen:l.length≤1099511627776):Fn PZ En 95 [mag l] (mag (aE (val l))):=by
 refine aA Tryz.func95 rfl Tryz.ntmps95 rfl ?_;intro w0 h0;refine kR ?_;refine vZ jj ?_;refine kO ?_;refine WpD.loop (α:={k:Nat//k≤l.length∧∀i x,k≤i→l[i]? =some x→x=0}) (fun k=>⟨[(0,.one (mag (l.take k.1)))],[]⟩) (fun k=>k.1) ⟨l.length,Nat.le_refl _,fun i x hi hx=>by rw[List.getElem?_eq_none hi] at hx;cases hx⟩ ?_ ?_
 ·refine Sub.mk ⟨⟨_,rfl,?_⟩,trivial,trivial⟩ trivial
  show PLe (mag l) (mag (l.take l.length))
  rw[List.take_length];exact PLe.refl _
 ·rintro⟨k,hk,hz⟩
  dsimp only;have hlt:(l.take k).length=k:=by simp;omega
  cases k with
  |zero=>
   have hb:decide (((l.take 0).length:Int)>0)=false:=by simp
   have hd:l.take 0=aE (val l):=pN hl (Nat.zero_le _) hz (fun x h=>absurd h (Nat.lt_irrefl 0));refine kR ?_;refine jm jj<|jE jj<|jS (bVg jj jj hb)<|jm jj ?_;refine kG ?_;refine kG ?_;first|refine jg (dQ jj CSlice.ok) ?_|refine jk ?_
   first|refine jg (aY jj jj (fun w=>eR w _ _ _ _ _ _)) ?_|refine jk ?_
   first|refine jg (bY jj jj aM) ?_|refine jk ?_
   first|refine jg (aZ jj jj) ?_|refine jk ?_
   first|refine jg (aY jj jj (fun w=>iR w _ _ _ _ _ _)) ?_|refine jk ?_
   refine kH ?_;refine jn ?_;refine kO ?_;refine WpD.condF rfl ?_;refine kO ?_;refine WpD.exit ?_;refine kR ?_;refine jm jj<|vZ jj ?_;refine kO ?_;refine WpD.ret ?_;refine wD rfl (.tmp rfl) ?_;rw[hd];exact PLe.refl _
  |succ k=>
   obtain⟨x,hx⟩:∃x,l[k]? =some x:=⟨_,List.getElem?_eq_getElem oM⟩;have hx':(l.take (k+1))[k]? =some x:=by rw[List.getElem?_take_of_lt oM];exact hx
   have hb:decide (((l.take (k+1)).length:Int)>0)=true:=by rw[hlt];exact decide_eq_true oM
   have h7:IntKind.i64.wrap (((l.take (k+1)).length:Int)-1)=(k:Int):=by rw[hlt,w64 oM oM];omega
   by_cases hx0:x=0
   ·have hb2:((x:Int)==0)=true:=by rw[hx0];rfl
    refine kR ?_;refine jm jj<|jE jj<|jS (bVg jj jj hb)<|jm jj ?_;refine kG ?_;refine kG ?_;first|refine jg (dQ jj CSlice.ok) ?_|refine jk ?_
    first|refine jg (bSu jj jj h7) ?_|refine jk ?_
    first|refine jg (bY jj jj aM) ?_|refine jk ?_
    first|refine jg (aZ jj jj) ?_|refine jk ?_
    first|refine jg (bVq jj jj hb2) ?_|refine jk ?_
    refine kH ?_;refine jn ?_;refine kO ?_;refine WpD.condT rfl ?_;refine kO ?_;refine WpD.skip ?_;refine kR ?_;refine vV jj jj<|jE jj<|vSu jj h7<|jS (aZ8 jj jj oM)<|vZ jj ?_;refine⟨⟨k,oM,fun i y hi hy=>?_⟩,?_,Nat.lt_succ_self k⟩
    ·by_cases e:i=k
     ·subst e;rw[hx] at hy;cases hy;exact hx0
     ·exact hz i y oM hy
    ·refine Sub.mk ⟨⟨_,rfl,?_⟩,trivial,trivial⟩ trivial
     show PLe (mag ((l.take (k+1)).take k)) (mag (l.take k))
     rw[List.take_take,Nat.min_eq_left oM];exact PLe.refl _
   ·have hb2:((x:Int)==0)=false:=by rw[beq_eq_false_iff_ne];omega
    have hd:l.take (k+1)=aE (val l):=pN hl hk hz (fun y _ hy=>by rw[Nat.add_sub_cancel,hx] at hy;cases hy;exact hx0)
    refine kR ?_;refine jm jj<|jE jj<|jS (bVg jj jj hb)<|jm jj ?_;refine kG ?_;refine kG ?_;first|refine jg (dQ jj CSlice.ok) ?_|refine jk ?_
    first|refine jg (bSu jj jj h7) ?_|refine jk ?_
    first|refine jg (bY jj jj aM) ?_|refine jk ?_
    first|refine jg (aZ jj jj) ?_|refine jk ?_
    first|refine jg (bVq jj jj hb2) ?_|refine jk ?_
    refine kH ?_;refine jn ?_;refine kO ?_;refine WpD.condF rfl ?_;refine kO ?_;refine WpD.exit ?_;refine kR ?_;refine jm jj<|vZ jj ?_;refine kO ?_;refine WpD.ret ?_;refine wD rfl (.tmp rfl) ?_;rw[hd];exact PLe.refl _
theorem hZP(u:Nat):val [u%B,u/B]=u:=by simp only[val,Nat.mul_zero,Nat.add_zero];exact Nat.mod_add_div u B
theorem gZg{u:Nat}(hu:u<18446744073709551616):Lm [u%B,u/B]:=by
 have h1:u%B<B:=Nat.mod_lt _ dD;have h2:u/B<B:=by rw[bM];omega
 exact Lm.cons h1 (Lm.cons h2 Lm.nil)
theorem kK(u:Nat)(hu:u<18446744073709551616):Fn PZ En 134 [ex (.int .u64 (u:Int))] (mag (aE u)):=by
 have C1:=iE En [u%B,u/B] (gZg hu) (by simp)
 rw[hZP] at C1;have h1:IntKind.u32.wrap (u:Int)=((u%B:Nat):Int):=by rw[IntKind.wrap_u32,bM];omega
 have h3:(u:Int).fdiv (2^(min (32:Int).toNat IntKind.u64.bits))=((u/B:Nat):Int):=by
  show(u:Int).fdiv (2^32)=_
  rw[Int.fdiv_eq_ediv_of_nonneg _ aD,bM];norm_cast
 have h4:IntKind.u32.wrap ((u/B:Nat):Int)=((u/B:Nat):Int):=by rw[IntKind.wrap_u32,bM];omega
 have hlm:=gZg hu;refine aA Tryz.func134 rfl Tryz.ntmps134 rfl ?_;intro w0 h0;refine kR ?_;refine vZ jj ?_;refine kR ?_;refine jm jj<|jS (bCv jj h1)<|jm jj<|jS (aH jj jj (fun w=>dF w _ _ _ _ _ _ _ aW) (dV h3))<|jS (bCv jj h4)<|jS (aZ9 (l:=[u%B,u/B]) tD jj jj jj hlm)<|vC C1 tA<|vZ jj ?_;refine kO ?_;refine WpD.ret ?_;exact rtT rfl jj
end
end
section
open Go.RowKit Limb
theorem bZJ{a b j:Nat}(ha:a<2^j)(hb:2^j*b<18446744073709551616)(hj:j≤64):IntKind.u64.wrap ((BitVec.ofInt IntKind.u64.bits (a:Int)|||BitVec.ofInt IntKind.u64.bits ((2^j*b:Nat):Int)).toNat:Int)=((a+2^j*b:Nat):Int):=by
 have hj':2^j≤2^64:=Nat.pow_le_pow_right aD hj;have e64:(2:Nat)^64=18446744073709551616:=by decide
 have h1:(BitVec.ofInt 64 (a:Int)).toNat=a:=by
  rw[BitVec.ofInt_natCast,BitVec.toNat_ofNat];exact Nat.mod_eq_of_lt oM
 have h2:(BitVec.ofInt 64 ((2^j*b:Nat):Int)).toNat=2^j*b:=by
  rw[BitVec.ofInt_natCast,BitVec.toNat_ofNat];exact Nat.mod_eq_of_lt oM
 have h3:a|||2^j*b=a+2^j*b:=by
  rw[Nat.or_comm,←Nat.two_pow_add_eq_or_of_lt ha,Nat.add_comm]
 have hlt:a+2^j*b<18446744073709551616:=by
  rw[←h3,←e64];exact Nat.or_lt_two_pow oM oM
 show IntKind.u64.wrap ((BitVec.ofInt 64 (a:Int)|||BitVec.ofInt 64 ((2^j*b:Nat):Int)).toNat:Int)=_
 rw[BitVec.toNat_or,h1,h2,h3];exact fC oM oM
theorem bZ2(A Z:List Nat)(y x:Nat):((A++y::Z).map lb).set A.length (lb x)=((A++[x])++Z).map lb:=by
 simp
theorem aZw{A:List Nat}{m i x:Nat}(hA:A.length=i):((A++List.replicate (m+1) 0).map lb).set i (lb x)=((A++[x])++List.replicate m 0).map lb:=by
 subst hA;rw[List.replicate_succ];exact bZ2 A _ 0 x
theorem qR(m:Nat):List.replicate m (ex (.int .u32 0))=(List.replicate m 0).map lb:=by rw[List.map_replicate];rfl
section
variable(En:Ev)
theorem aZG(l:List Nat)(hl2:Lm l)(hl:l.length≤2):Fn PZ En 144 [mag l] (ex (.int .u64 ((val l:Nat):Int))):=by
 refine aA Tryz.func144 rfl Tryz.ntmps144 rfl ?_;intro w0 h0;refine kR ?_;refine vZ jj ?_;refine kR ?_;refine vZ jj ?_;refine kR ?_;refine jm jj<|jE jj<|jm jj<|jn ?_;refine kO ?_;refine WpD.loop (α:={k:Nat//k≤l.length}) (fun k=>⟨[(3,.one (ex (.int .u64 ((val (l.take k.1):Nat):Int)))),(6,.one (mag l)),(7,.one (i6 l.length)),(8,.one (i6 k.1))],[]⟩) (fun k=>l.length-k.1) ⟨0,Nat.zero_le _⟩ ?_ ?_
 ·
  exact Sub.mk sJ sJ
 ·rintro⟨k,hk⟩
  dsimp only
  by_cases hlt:k<l.length
  ·obtain⟨x,hx⟩:∃x,l[k]? =some x:=⟨_,List.getElem?_eq_getElem hlt⟩
   have hxB:=hl2.get hx;have hb:decide ((k:Int)<(l.length:Int))=true:=decide_eq_true oM;have h2:IntKind.u64.wrap (x:Int)=(x:Int):=fC oM (by rw[bM] at hxB;omega)
   have h4:IntKind.i64.wrap (32*(k:Int))=((32*k:Nat):Int):=by rw[w64 oM oM];omega
   have hv:=bH l k;rw[hx,Option.getD_some] at hv;have hlow:=fE (hl2.take k);rw[List.length_take,Nat.min_eq_left oM] at hlow;have eB:B^k=2^(32*k):=by rw[Nat.pow_mul];rfl
   rw[eB] at hlow hv;have hk1:k=0∨k=1:=oM;have hbig:2^(32*k)*x<18446744073709551616:=by rcases hk1 with rfl|rfl<;>rw[bM] at hxB<;>simp<;>omega
   have h5:IntKind.u64.wrap ((x:Int)*2^(min (((32*k:Nat):Int)).toNat IntKind.u64.bits))=((2^(32*k)*x:Nat):Int):=by
    rw[Int.toNat_natCast,show min (32*k) IntKind.u64.bits=32*k from Nat.min_eq_left (by show 32*k≤64;omega)]
    rw[show(x:Int)*2^(32*k)=((2^(32*k)*x:Nat):Int) by rw[Int.natCast_mul,Int.mul_comm];norm_cast]
    exact fC oM oM
   have h6:=bZJ hlow hbig oM;rw[←hv] at h6;have h8:IntKind.i64.wrap ((k:Int)+1)=((k+1:Nat):Int):=by rw[w64 oM oM];omega
   refine kR ?_;refine jS (bVl jj jj hb)<|jn ?_;refine kO ?_;refine WpD.condT rfl ?_;refine kO ?_;refine WpD.skip ?_;refine kR ?_;refine jm jj<|jS (bY jj jj aM)<|vT jj<|ja jj<|vZ jj ?_;refine kR ?_;refine vV jj jj<|jS (bCv jj h2)<|jm jj<|vMu jj h4<|jS (aH jj jj (fun w=>jD w _ _ _ _ _ _ _ aW) (dV h5))<|jS (aH jj jj (fun w=>lK w _ _ _ _ _ _) (dV h6))<|vZ jj ?_;refine kR ?_;refine vAd jj h8<|jm jj<|jn ?_;refine⟨⟨k+1,hlt⟩,?_,by simp only;omega⟩
   exact Sub.mk sJ sJ
  ·have hb:decide ((k:Int)<(l.length:Int))=false:=decide_eq_false oM
   have hkl:k=l.length:=oM;subst hkl;refine kR ?_;refine jS (bVl jj jj hb)<|jn ?_;refine kO ?_;refine WpD.condF rfl ?_;refine kO ?_;refine WpD.exit ?_;refine kR ?_;refine jm jj<|vZ jj ?_;refine kO ?_;refine WpD.ret ?_;refine wD rfl (.tmp rfl) ?_;rw[List.take_length];exact PLe.refl _
theorem nC(a b:List Nat)(ha:a.length≤1099511627776)(hla:Lm a)(hlb:Lm b):Fn PZ En 94 [mag a,mag b] (i6 (gA a b)):=by
 by_cases h1:a.length<b.length
 ·have e1:gA a b= -1:=by unfold gA;rw[if_pos h1]
  have b1:decide ((a.length:Int)<(b.length:Int))=true:=decide_eq_true oM;rw[e1];refine aA Tryz.func94 rfl Tryz.ntmps94 rfl ?_;intro w0 h0;refine kR ?_;refine vZ jj ?_;refine kR ?_;refine jm jj<|jE jj<|jm jj<|jE jj<|jS (bVl jj jj b1)<|vZ jj ?_;refine kO ?_;refine WpD.condT rfl ?_;refine kR ?_;refine vZ jj ?_;refine kO ?_;refine WpD.ret ?_;exact rtT rfl jj
 ·have b1:decide ((a.length:Int)<(b.length:Int))=false:=decide_eq_false oM
  by_cases h2:b.length<a.length
  ·have e1:gA a b=1:=by unfold gA;rw[if_neg h1,if_pos h2]
   have b2:decide ((a.length:Int)>(b.length:Int))=true:=decide_eq_true oM;rw[e1];refine aA Tryz.func94 rfl Tryz.ntmps94 rfl ?_;intro w0 h0;refine kR ?_;refine vZ jj ?_;refine kR ?_;refine jm jj<|jE jj<|jm jj<|jE jj<|jS (bVl jj jj b1)<|vZ jj ?_;refine kO ?_;refine WpD.condF rfl ?_;refine kR ?_;refine jm jj<|jE jj<|jm jj<|jE jj<|jS (bVg jj jj b2)<|vZ jj ?_;refine kO ?_;refine WpD.condT rfl ?_;refine kR ?_;refine vZ jj ?_;refine kO ?_;refine WpD.ret ?_;exact rtT rfl jj
  ·have b2:decide ((a.length:Int)>(b.length:Int))=false:=decide_eq_false oM
   have hlen:a.length=b.length:=oM;have hw:IntKind.i64.wrap ((a.length:Int)-1)=(a.length:Int)-1:=w64 oM oM;have cE:gA a b=if val a<val b then-1 else if val b<val a then 1 else 0:=by unfold gA;rw[if_neg h1,if_neg h2]
   refine aA Tryz.func94 rfl Tryz.ntmps94 rfl ?_;intro w0 h0;refine kR ?_;refine vZ jj ?_;refine kR ?_;refine jm jj<|jE jj<|jm jj<|jE jj<|jS (bVl jj jj b1)<|vZ jj ?_;refine kO ?_;refine WpD.condF rfl ?_;refine kR ?_;refine jm jj<|jE jj<|jm jj<|jE jj<|jS (bVg jj jj b2)<|vZ jj ?_;refine kO ?_;refine WpD.condF rfl ?_;refine kO ?_;refine WpD.skip ?_;refine kR ?_;refine jm jj<|jE jj<|vSu jj hw<|vZ jj ?_;refine kO ?_;refine WpD.loop (α:={k:Nat//k≤a.length∧a.drop k=b.drop k}) (fun k=>⟨[(0,.one (mag a)),(1,.one (mag b)),(5,.one (i6 ((k.1:Int)-1)))],[]⟩) (fun k=>k.1) ⟨a.length,Nat.le_refl _,by rw[List.drop_length,hlen,List.drop_length]⟩ ?_ ?_
   ·
    exact Sub.mk sJ sJ
   ·rintro⟨k,hk,hd⟩
    dsimp only;cases k with
    |zero=>
     have hab:a=b:=by simpa using hd
     have b3:decide ((((0:Nat):Int)-1)≥0)=false:=by decide
     have e1:gA a b=0:=by rw[hab];exact bZi b
     rw[e1];refine kR ?_;refine jm jj<|jS (bVh jj jj b3)<|jn ?_;refine kO ?_;refine WpD.condF rfl ?_;refine kO ?_;refine WpD.exit ?_;refine kR ?_;refine vZ jj ?_;refine kO ?_;refine WpD.ret ?_;exact rtT rfl jj
    |succ j=>
     obtain⟨x,hx⟩:∃x,a[j]? =some x:=⟨_,List.getElem?_eq_getElem oM⟩;obtain⟨y,hy⟩:∃y,b[j]? =some y:=⟨_,List.getElem?_eq_getElem oM⟩;have b3:decide ((j:Int)≥0)=true:=decide_eq_true oM;rw[show(((j+1:Nat):Int)-1)=(j:Int) by omega]
     refine kR ?_;refine jm jj<|jS (bVh jj jj b3)<|jn ?_;refine kO ?_;refine WpD.condT rfl ?_;refine kO ?_;refine WpD.skip ?_
     by_cases hxy:x<y
     ·have b4:decide ((x:Int)<(y:Int))=true:=decide_eq_true oM
      have e1:gA a b= -1:=by rw[cE,if_pos (kP hlen hla hx hy hxy hd)]
      rw[e1];refine kR ?_;refine vV jj jj<|jS (bY jj jj aM)<|vT jj<|vV jj jj<|jS (bY jj jj aM)<|vT jj<|jS (bVl jj jj b4)<|vZ jj ?_;refine kO ?_;refine WpD.condT rfl ?_;refine kR ?_;refine vZ jj ?_;refine kO ?_;refine WpD.ret ?_;exact rtT rfl jj
     ·have b4:decide ((x:Int)<(y:Int))=false:=decide_eq_false oM
      by_cases hyx:y<x
      ·have b5:decide ((x:Int)>(y:Int))=true:=decide_eq_true oM
       have hlt:=kP hlen.symm hlb hy hx hyx hd.symm;have e1:gA a b=1:=by rw[cE,if_neg oM,if_pos hlt]
       rw[e1];refine kR ?_;refine vV jj jj<|jS (bY jj jj aM)<|vT jj<|vV jj jj<|jS (bY jj jj aM)<|vT jj<|jS (bVl jj jj b4)<|vZ jj ?_;refine kO ?_;refine WpD.condF rfl ?_;refine kR ?_;refine vV jj jj<|jS (bY jj jj aM)<|vT jj<|vV jj jj<|jS (bY jj jj aM)<|vT jj<|jS (bVg jj jj b5)<|vZ jj ?_;refine kO ?_;refine WpD.condT rfl ?_;refine kR ?_;refine vZ jj ?_;refine kO ?_;refine WpD.ret ?_;exact rtT rfl jj
      ·have b5:decide ((x:Int)>(y:Int))=false:=decide_eq_false oM
       have h6:IntKind.i64.wrap ((j:Int)-1)=(j:Int)-1:=w64 oM oM;refine kR ?_;refine vV jj jj<|jS (bY jj jj aM)<|vT jj<|vV jj jj<|jS (bY jj jj aM)<|vT jj<|jS (bVl jj jj b4)<|vZ jj ?_;refine kO ?_;refine WpD.condF rfl ?_;refine kR ?_;refine vV jj jj<|jS (bY jj jj aM)<|vT jj<|vV jj jj<|jS (bY jj jj aM)<|vT jj<|jS (bVg jj jj b5)<|vZ jj ?_;refine kO ?_;refine WpD.condF rfl ?_;refine kO ?_;refine WpD.skip ?_;refine kR ?_;refine jm jj<|vSu jj h6<|vZ jj ?_;refine⟨⟨j,oM,?_⟩,?_,Nat.lt_succ_self j⟩
       ·rw[List.drop_eq_getElem_cons (by omega:j<a.length),List.drop_eq_getElem_cons (by omega:j<b.length),hd,(List.getElem?_eq_some_iff.1 hx).2,(List.getElem?_eq_some_iff.1 hy).2,show x=y by omega]
       ·
        exact Sub.mk sJ sJ
end
end
section
open Go.RowKit Limb
theorem PsLe.of_eq{a b:List Pd}(h:a=b):PsLe a b:=by rw[h];exact PsLe.refl _
theorem nO(c:Nat):IntKind.u32.wrap (c:Int)=((c%B:Nat):Int):=by rw[IntKind.wrap_u32,bM];omega
theorem rV(c:Nat):(c:Int).fdiv (2^(min (32:Int).toNat IntKind.u64.bits))=((c/B:Nat):Int):=by
 show(c:Int).fdiv (2^32)=_
 rw[Int.fdiv_eq_ediv_of_nonneg _ aD,bM];norm_cast
section
variable(En:Ev)
theorem nadd(a b:List Nat)(ha:a.length≤549755813888)(hb:b.length≤549755813888)(hla:Lm a)(hlb:Lm b):Fn PZ En 171 [mag a,mag b] (mag (aE (val a+val b))):=by
 refine aA Tryz.func171 rfl Tryz.ntmps171 rfl ?_;intro w0 h0;refine kR ?_;refine vZ jj ?_;refine WpD.cut (α:={p:List Nat×List Nat//p.2.length≤p.1.length∧p.1.length≤549755813888∧Lm p.1∧Lm p.2∧val p.1+val p.2=val a+val b}) (fun p=>⟨[(0,.one (mag p.1.1)),(1,.one (mag p.1.2))],[]⟩) ?_ ?_
 ·by_cases h:a.length<b.length
  ·have b1:decide ((a.length:Int)<(b.length:Int))=true:=decide_eq_true oM
   refine kR ?_;refine jm jj<|jE jj<|jm jj<|jE jj<|jS (bVl jj jj b1)<|jn ?_;refine kO ?_;refine WpD.condT rfl ?_;refine kR ?_;refine vV jj jj<|ja jj<|vZ jj ?_;refine⟨⟨(b,a),by simp only;omega,hb,hlb,hla,by simp only;omega⟩,?_⟩
   exact Sub.mk sJ sJ
  ·have b1:decide ((a.length:Int)<(b.length:Int))=false:=decide_eq_false oM
   refine kR ?_;refine jm jj<|jE jj<|jm jj<|jE jj<|jS (bVl jj jj b1)<|jn ?_;refine kO ?_;refine WpD.condF rfl ?_;refine kO ?_;refine WpD.skip ?_;refine⟨⟨(a,b),by simp only;omega,ha,hla,hlb,rfl⟩,?_⟩
   exact Sub.mk sJ sJ
 ·rintro⟨⟨x,y⟩,hle,hx,hlx,hly,hv⟩
  simp only at hle hx hlx hly hv;dsimp only;rw[←hv];clear hv hla hlb ha hb;have h2:IntKind.i64.wrap ((x.length:Int)+1)=((x.length+1:Nat):Int):=by rw[w64 oM oM];omega
  refine kR ?_;refine jm jj<|jE jj<|vAd jj h2<|jT (nT jj jj jj jj oM oM)<|vZ jj ?_;refine kR ?_;refine vZ jj ?_;refine kR ?_;refine jm jj<|jE jj<|jm jj<|jn ?_;refine kO ?_;refine WpD.loop (α:={p:Nat×List Nat×Nat//p.1≤y.length∧SumInv x y p.1 p.2.1 p.2.2}) (fun p=>⟨[(0,.one (mag x)),(1,.one (mag y)),(5,.own 19 0 (x.length+1) (x.length+1)),(6,.one (ex (.int .u64 (p.1.2.2:Int)))),(21,.one (i6 y.length)),(22,.one (i6 p.1.1))],[(19,(p.1.2.1++List.replicate (x.length+1-p.1.1) 0).map lb)]⟩) (fun p=>y.length-p.1.1) ⟨(0,[],0),Nat.zero_le _,SumInv.start x y⟩ ?_ ?_
  ·
   exact Sub.mk sJ ⟨.inl ⟨_,jj,PsLe.of_eq (qR _)⟩,trivial⟩
  ·rintro⟨⟨k,A,c⟩,hk,hS⟩
   simp only at hk hS;dsimp only;obtain⟨hA,hAl,hc,_⟩:=id hS
   by_cases hlt:k<y.length
   ·obtain⟨u,hu⟩:∃u,x[k]? =some u:=⟨_,List.getElem?_eq_getElem oM⟩
    obtain⟨v,hv⟩:∃v,y[k]? =some v:=⟨_,List.getElem?_eq_getElem oM⟩;have huB:=hlx.get hu;have hvB:=hly.get hv;rw[bM] at huB hvB;have hS':=SumInv.step hlx hly hS;rw[hu,hv,Option.getD_some,Option.getD_some] at hS';have b1:decide ((k:Int)<(y.length:Int))=true:=decide_eq_true oM;have e5:IntKind.u64.wrap (u:Int)=(u:Int):=fC oM oM;have e10:IntKind.u64.wrap (v:Int)=(v:Int):=fC oM oM;have e11:IntKind.u64.wrap ((u:Int)+(v:Int))=(u:Int)+(v:Int):=fC oM oM;have e12:IntKind.u64.wrap ((c:Int)+((u:Int)+(v:Int)))=((c+u+v:Nat):Int):=by rw[fC oM oM];omega
    have hkn:k<x.length+1:=oM;have hm:x.length+1-k=(x.length-k)+1:=oM;have hsetl:k<((A++List.replicate (x.length+1-k) 0).map lb).length:=by simp;omega
    have hset:((A++List.replicate (x.length+1-k) 0).map lb).set k (ex (.int .u32 (((c+u+v)%B:Nat):Int)))=((A++[(c+u+v)%B])++List.replicate (x.length+1-(k+1)) 0).map lb:=by
     rw[hm,show x.length+1-(k+1)=x.length-k by omega];exact aZw hA
    have e13:IntKind.i64.wrap ((k:Int)+1)=((k+1:Nat):Int):=by rw[w64 oM oM];omega
    refine kR ?_;refine jS (bVl jj jj b1)<|jn ?_;refine kO ?_;refine WpD.condT rfl ?_;refine kO ?_;refine WpD.skip ?_;refine kR ?_;refine jm jj<|vZ jj ?_;refine kR ?_;refine vV jj jj<|jm jj<|jS (bY jj jj aM)<|vT jj<|jS (bCv jj e5)<|vV jj jj<|jS (bY jj jj aM)<|vT jj<|jS (bCv jj e10)<|vAd jj e11<|vAd jj e12<|vZ jj ?_;refine kR ?_;refine vV jj jj<|jm jj<|jS (bCv jj (nO _))<|jS (dN jj jj aO)<|jO (bX jj jj jj aM aM)<|jn ?_;refine kR ?_;refine jm jj<|jS (aH jj jj (fun w=>dF w _ _ _ _ _ _ _ aW) (dV (rV _)))<|vZ jj ?_;refine kR ?_;refine vAd jj e13<|jm jj<|jn ?_;refine⟨⟨(k+1,A++[(c+u+v)%B],(c+u+v)/B),hlt,hS'⟩,?_,by simp only;omega⟩
    exact Sub.mk sJ sJ
   ·have b1:decide ((k:Int)<(y.length:Int))=false:=decide_eq_false oM
    have hky:k=y.length:=oM;subst hky;have e4:IntKind.i64.wrap ((x.length:Int)-(y.length:Int))=((x.length-y.length:Nat):Int):=by rw[w64 oM oM];omega
    refine kR ?_;refine jS (bVl jj jj b1)<|jn ?_;refine kO ?_;refine WpD.condF rfl ?_;refine kO ?_;refine WpD.exit ?_;refine kR ?_;refine jm jj<|jE jj<|jm jj<|jE jj<|vSu jj e4<|jm jj<|jn ?_;refine kO ?_;refine WpD.loop (α:={p:Nat×List Nat×Nat//p.1≤x.length-y.length∧SumInv x y (y.length+p.1) p.2.1 p.2.2}) (fun p=>⟨[(0,.one (mag x)),(1,.one (mag y)),(5,.own 19 0 (x.length+1) (x.length+1)),(6,.one (ex (.int .u64 (p.1.2.2:Int)))),(50,.one (i6 ((x.length-y.length:Nat):Int))),(51,.one (i6 p.1.1))],[(19,(p.1.2.1++List.replicate (x.length+1-(y.length+p.1.1)) 0).map lb)]⟩) (fun p=>x.length-y.length-p.1.1) ⟨(0,A,c),Nat.zero_le _,hS⟩ ?_ ?_
    ·
     exact Sub.mk sJ sJ
    ·clear hA hAl hc hS b1 hk e4 hlt
     rintro⟨⟨k,A,c⟩,hk,hS⟩;simp only at hk hS;dsimp only;obtain⟨hA,hAl,hc,_⟩:=id hS
     by_cases hlt:k<x.length-y.length
     ·obtain⟨u,hu⟩:∃u,x[y.length+k]? =some u:=⟨_,List.getElem?_eq_getElem oM⟩
      have huB:=hlx.get hu;rw[bM] at huB;have hS':=SumInv.step hlx hly hS;rw[hu,Option.getD_some,show y[y.length+k]? =none from List.getElem?_eq_none oM,Option.getD_none,Nat.add_zero] at hS'
      have b1:decide ((k:Int)<((x.length-y.length:Nat):Int))=true:=decide_eq_true oM;have e5:IntKind.i64.wrap ((y.length:Int)+(k:Int))=((y.length+k:Nat):Int):=by rw[w64 oM oM];omega
      have e8:IntKind.u64.wrap (u:Int)=(u:Int):=fC oM oM;have e9:IntKind.u64.wrap ((c:Int)+(u:Int))=((c+u:Nat):Int):=by rw[fC oM oM];omega
      have hkn:y.length+k<x.length+1:=oM;have hm:x.length+1-(y.length+k)=(x.length-(y.length+k))+1:=oM;have hsetl:y.length+k<((A++List.replicate (x.length+1-(y.length+k)) 0).map lb).length:=by simp;omega
      have hset:((A++List.replicate (x.length+1-(y.length+k)) 0).map lb).set (y.length+k) (ex (.int .u32 (((c+u)%B:Nat):Int)))=((A++[(c+u)%B])++List.replicate (x.length+1-(y.length+(k+1))) 0).map lb:=by
       rw[hm,show x.length+1-(y.length+(k+1))=x.length-(y.length+k) by omega];exact aZw hA
      have e13:IntKind.i64.wrap ((k:Int)+1)=((k+1:Nat):Int):=by rw[w64 oM oM];omega
      refine kR ?_;refine jS (bVl jj jj b1)<|jn ?_;refine kO ?_;refine WpD.condT rfl ?_;refine kO ?_;refine WpD.skip ?_;refine kR ?_;refine jm jj<|vZ jj ?_;refine kR ?_;refine vV jj jj<|jm jj<|jE jj<|jm jj<|vAd jj e5<|jS (bY jj jj aM)<|vT jj<|jS (bCv jj e8)<|vAd jj e9<|vZ jj ?_;refine kR ?_;refine vV jj jj<|jE jj<|jm jj<|vAd jj e5<|jm jj<|jS (bCv jj (nO _))<|jS (dN jj jj aO)<|jO (bX jj jj jj aM aM)<|jn ?_;refine kR ?_;refine jm jj<|jS (aH jj jj (fun w=>dF w _ _ _ _ _ _ _ aW) (dV (rV _)))<|vZ jj ?_;refine kR ?_;refine vAd jj e13<|jm jj<|jn ?_;refine⟨⟨(k+1,A++[(c+u)%B],(c+u)/B),hlt,hS'⟩,?_,by simp only;omega⟩
      exact Sub.mk sJ sJ
     ·have b1:decide ((k:Int)<((x.length-y.length:Nat):Int))=false:=decide_eq_false oM
      have hkx:y.length+k=x.length:=oM;rw[hkx] at hS hA ⊢;obtain⟨d1,d2⟩:=SumInv.done hS (Nat.le_refl _) hle;have hsetl:x.length<((A++List.replicate (x.length+1-x.length) 0).map lb).length:=by simp;omega
      have hxl:x.length<x.length+1:=oM;have hcB:((c%B:Nat):Int)=(c:Int):=by rw[bM];omega
      have hset:((A++List.replicate (x.length+1-x.length) 0).map lb).set x.length (ex (.int .u32 (c:Int)))=(A++[c]).map lb:=by
       rw[show x.length+1-x.length=0+1 by omega,show(A++[c]).map lb=((A++[c])++List.replicate 0 0).map lb by simp];exact aZw hA
      have C1:=iE En (A++[c]) d1 (by simp;omega)
      rw[d2] at C1;have hlen:(A++[c]).length=x.length+1:=by simp;omega
      refine kR ?_;refine jS (bVl jj jj b1)<|jn ?_;refine kO ?_;refine WpD.condF rfl ?_;refine kO ?_;refine WpD.exit ?_;refine kR ?_;refine vV jj jj<|jE jj<|jm jj<|jS (bCv jj ((nO _).trans hcB))<|jS (dN jj jj aO)<|jO (bX jj jj jj aM aM)<|jn ?_;refine WpD.sub (τ:=⟨[(5,.one (mag (A++[c])))],[]⟩) ?_ ?_
      ·
       refine Sub.pub 19 rfl rfl ?_ ?_ rfl
       ·repeat(first|exact trivial|refine⟨.inl ⟨pK,trivial⟩,?_⟩|refine⟨.inl ⟨⟨_,rfl,rfl⟩,oN⟩,?_⟩|refine⟨.inl ⟨⟨_,rfl,rfl⟩,⟨oN,oN⟩⟩,?_⟩|refine⟨.inr (.inl ⟨_,_,_,_,rfl,rfl,by rw[←hlen];exact fI oM d1⟩),?_⟩|refine⟨.inr (.inr (.inl ⟨_,_,_,rfl,rfl,by rw[←hlen];exact fI oM d1⟩)),?_⟩)
       ·repeat(first|exact trivial|refine jz ?_|refine jy rfl ?_)
      refine kR ?_;refine jm jj<|vC C1 tA<|vZ jj ?_;refine kO ?_;refine WpD.ret ?_;exact rtT rfl jj
def mI(x y:Nat):Nat:=if x<y then 18446744073709551616+x-y else x-y
theorem nsub(a b:List Nat)(ha:a.length≤549755813888)(hle:b.length≤a.length)(hla:Lm a)(hlb:Lm b)(hval:val b≤val a):Fn PZ En 172 [mag a,mag b] (mag (aE (val a-val b))):=by
 refine aA Tryz.func172 rfl Tryz.ntmps172 rfl ?_;intro w0 h0;refine kR ?_;refine vZ jj ?_;refine kR ?_;refine jm jj<|jE jj<|jT (nT jj jj jj jj oM oM)<|vZ jj ?_;refine kR ?_;refine vZ jj ?_;refine kR ?_;refine jm jj<|jE jj<|jm jj<|jn ?_;refine kO ?_;refine WpD.loop (α:={p:Nat×List Nat×Nat//p.1≤a.length∧DifInv a b p.1 p.2.1 p.2.2}) (fun p=>⟨[(0,.one (mag a)),(1,.one (mag b)),(5,.own 11 0 a.length a.length),(6,.one (ex (.int .u64 (p.1.2.2:Int)))),(13,.one (i6 a.length)),(14,.one (i6 p.1.1))],[(11,(p.1.2.1++List.replicate (a.length-p.1.1) 0).map lb)]⟩) (fun p=>a.length-p.1.1) ⟨(0,[],0),Nat.zero_le _,DifInv.start a b⟩ ?_ ?_
 ·
  exact Sub.mk sJ ⟨.inl ⟨_,jj,PsLe.of_eq (qR _)⟩,trivial⟩
 ·rintro⟨⟨k,A,c⟩,hk,hS⟩
  simp only at hk hS;dsimp only;obtain⟨hA,hAl,hc,_⟩:=id hS
  by_cases hlt:k<a.length
  ·obtain⟨u,hu⟩:∃u,a[k]? =some u:=⟨_,List.getElem?_eq_getElem oM⟩
   have huB:=hla.get hu;rw[bM] at huB;obtain⟨y,hy⟩:∃y,b[k]?.getD 0=y:=⟨_,rfl⟩;have hyB:y<B:=by rw[←hy];exact kV hlb k
   rw[bM] at hyB;have hS':=DifInv.step hla hlb hS;rw[hu,hy,Option.getD_some] at hS';obtain⟨tt,htt⟩:∃tt,mI u (c+y)=tt:=⟨_,rfl⟩;have t1:tt%B=iQ u (c+y):=by rw[←htt];unfold mI iQ;rw[bM];split<;>omega
   have t2:(tt:Int).fdiv (2^(min (63:Int).toNat IntKind.u64.bits))=((lE u (c+y):Nat):Int):=by
    show(tt:Int).fdiv (2^63)=_
    rw[Int.fdiv_eq_ediv_of_nonneg _ aD,←htt];unfold mI lE;split<;>omega
   have b1:decide ((k:Int)<(a.length:Int))=true:=decide_eq_true oM;have e4:IntKind.u64.wrap (u:Int)=(u:Int):=fC oM oM;have hm:a.length-k=(a.length-(k+1))+1:=oM;have hsetl:k<((A++List.replicate (a.length-k) 0).map lb).length:=by simp;omega
   have hset:((A++List.replicate (a.length-k) 0).map lb).set k (ex (.int .u32 ((iQ u (c+y):Nat):Int)))=((A++[iQ u (c+y)])++List.replicate (a.length-(k+1)) 0).map lb:=by
    rw[hm];exact aZw hA
   have e13:IntKind.i64.wrap ((k:Int)+1)=((k+1:Nat):Int):=by rw[w64 oM oM];omega
   refine kR ?_;refine jS (bVl jj jj b1)<|jn ?_;refine kO ?_;refine WpD.condT rfl ?_;refine kO ?_;refine WpD.skip ?_;refine kR ?_;refine jm jj<|vZ jj ?_;refine kR ?_;refine vV jj jj<|jS (bY jj jj aM)<|vT jj<|jS (bCv jj e4)<|jm jj<|jS (aY jj jj (fun w=>eR w _ _ _ _ _ _))<|vZ jj ?_;refine WpD.cut (α:=Unit) (fun _=>⟨[(0,.one (mag a)),(1,.one (mag b)),(5,.own 11 0 a.length a.length),(7,.one (i6 k)),(8,.one (ex (.int .u64 (tt:Int)))),(13,.one (i6 a.length)),(14,.one (i6 k))],[(11,(A++List.replicate (a.length-k) 0).map lb)]⟩) ?_ ?_
   ·by_cases hkb:k<b.length
    ·have b2:decide ((k:Int)<(b.length:Int))=true:=decide_eq_true oM
     have hy':b[k]? =some y:=by rw[←hy,List.getElem?_eq_getElem hkb];rfl
     have e5:IntKind.u64.wrap (y:Int)=(y:Int):=fC oM oM;have e6:IntKind.u64.wrap (IntKind.u64.wrap ((u:Int)-(c:Int))-(y:Int))=(tt:Int):=by
      rw[IntKind.wrap_u64,IntKind.wrap_u64,←htt];unfold mI;split<;>omega
     refine kR ?_;refine vV jj jj<|jE jj<|jS (bVl jj jj b2)<|jn ?_;refine kO ?_;refine WpD.condT rfl ?_;refine kR ?_;refine vV jj jj<|jm jj<|jS (bY jj jj aM)<|vT jj<|jS (bCv jj e5)<|vSu jj e6<|vZ jj ?_;refine⟨(),?_⟩;exact Sub.mk sJ sJ
    ·have b2:decide ((k:Int)<(b.length:Int))=false:=decide_eq_false oM
     have hy0:y=0:=by rw[←hy,List.getElem?_eq_none oM];rfl
     have e6:IntKind.u64.wrap ((u:Int)-(c:Int))=(tt:Int):=by
      rw[IntKind.wrap_u64,←htt,hy0];unfold mI;split<;>omega
     rw[e6];refine kR ?_;refine vV jj jj<|jE jj<|jS (bVl jj jj b2)<|jn ?_;refine kO ?_;refine WpD.condF rfl ?_;refine kO ?_;refine WpD.skip ?_;refine⟨(),?_⟩;exact Sub.mk sJ sJ
   ·rintro⟨⟩
    have e3:IntKind.u32.wrap (tt:Int)=((iQ u (c+y):Nat):Int):=by rw[nO,t1]
    refine kR ?_;refine vV jj jj<|jm jj<|jS (bCv jj e3)<|jS (dN jj jj aO)<|jO (bX jj jj jj aM aM)<|jn ?_;refine kR ?_;refine jm jj<|jS (aH jj jj (fun w=>dF w _ _ _ _ _ _ _ aW) (dV t2))<|vZ jj ?_;refine kR ?_;refine vAd jj e13<|jm jj<|jn ?_;refine⟨⟨(k+1,A++[iQ u (c+y)],lE u (c+y)),hlt,hS'⟩,?_,by simp only;omega⟩
    exact Sub.mk sJ sJ
  ·have b1:decide ((k:Int)<(a.length:Int))=false:=decide_eq_false oM
   have hka:k=a.length:=oM;subst hka;obtain⟨d1,d2⟩:=DifInv.done hS (Nat.le_refl _) hle hval;have C1:=iE En A d1 oM;rw[d2] at C1;rw[Nat.sub_self,List.replicate_zero,List.append_nil];refine kR ?_;refine jS (bVl jj jj b1)<|jn ?_;refine kO ?_;refine WpD.condF rfl ?_;refine kO ?_;refine WpD.exit ?_;refine WpD.sub (τ:=⟨[(5,.one (mag A))],[]⟩) ?_ ?_
   ·
    refine Sub.pub 11 rfl rfl ?_ ?_ rfl
    ·repeat(first|exact trivial|refine⟨.inl ⟨pK,trivial⟩,?_⟩|refine⟨.inl ⟨⟨_,rfl,rfl⟩,oN⟩,?_⟩|refine⟨.inl ⟨⟨_,rfl,rfl⟩,⟨oN,oN⟩⟩,?_⟩|refine⟨.inr (.inl ⟨_,_,_,_,rfl,rfl,by rw[←hA];exact fI (Nat.le_refl _) d1⟩),?_⟩|refine⟨.inr (.inr (.inl ⟨_,_,_,rfl,rfl,by rw[←hA];exact fI (Nat.le_refl _) d1⟩)),?_⟩)
    ·repeat(first|exact trivial|refine jz ?_|refine jy rfl ?_)
   refine kR ?_;refine jm jj<|vC C1 tA<|vZ jj ?_;refine kO ?_;refine WpD.ret ?_;exact rtT rfl jj
end
end
section
open Go.RowKit Limb
theorem xG{l:List Nat}(h:Lm l)(hl:l.length≤1):val l<B:=by
 have h1:=fE h;have:B^l.length≤B^1:=Nat.pow_le_pow_right dD hl;rw[Nat.pow_one] at this;omega
theorem hZz{L:List Nat}{i x:Nat}(h:L[i]? =some x):(L.map lb)[i]? =some (lb x):=by rw[List.getElem?_map,h];rfl
section
variable(En:Ev)
theorem eZS(a b:List Nat)(ha:a.length≤1)(hb:b.length≤1)(hla:Lm a)(hlb:Lm b):Fn PZ En 97 [mag a,mag b] (mag (aE (val a*val b))):=by
 have C1:=aZG En a hla oM;have C2:=aZG En b hlb oM;have h1:=xG hla ha;have h2:=xG hlb hb;have h3:=(mO dD h1 h2 dD).2;have C3:=kK En (val a*val b) oM;have b1:decide ((a.length:Int)≤1)=true:=decide_eq_true oM;have b2:decide ((b.length:Int)≤1)=true:=decide_eq_true oM;have e4:IntKind.u64.wrap (((val a:Nat):Int)*((val b:Nat):Int))=((val a*val b:Nat):Int):=by rw[←Int.natCast_mul];exact fC oM oM
 refine aA Tryz.func97 rfl Tryz.ntmps97 rfl ?_;intro w0 h0;refine kR ?_;refine vZ jj ?_;refine kR ?_;refine jm jj<|jE jj<|jS (bVe jj jj b1)<|jm jj ?_;refine kG ?_;first|refine jg (dQ jj CSlice.ok) ?_|refine jk ?_
 first|refine jg (bVe jj jj b2) ?_|refine jk ?_
 refine kH ?_;refine jn ?_;refine kO ?_;refine WpD.condT rfl ?_;refine kR ?_;refine jm jj<|vC C1 tA<|jm jj<|vC C2 tA<|vMu jj e4<|vC C3 tA<|vZ jj ?_;refine kO ?_;refine WpD.ret ?_;exact rtT rfl jj
theorem iZW(a b:List Nat)(ha:a.length≤274877906944)(hb:b.length≤274877906944)(hbig:¬(a.length≤1∧b.length≤1))(hla:Lm a)(hlb:Lm b):Fn PZ En 97 [mag a,mag b] (mag (aE (val a*val b))):=by
 refine aA Tryz.func97 rfl Tryz.ntmps97 rfl ?_;intro w0 h0;refine kR ?_;refine vZ jj ?_;refine WpD.cut (α:=Unit) (fun _=>⟨[(0,.one (mag a)),(1,.one (mag b))],[]⟩) ?_ ?_
 ·by_cases h1:a.length≤1
  ·have b1:decide ((a.length:Int)≤1)=true:=decide_eq_true oM
   have b2:decide ((b.length:Int)≤1)=false:=decide_eq_false oM;refine kR ?_;refine jm jj<|jE jj<|jS (bVe jj jj b1)<|jm jj ?_;refine kG ?_;first|refine jg (dQ jj CSlice.ok) ?_|refine jk ?_
   first|refine jg (bVe jj jj b2) ?_|refine jk ?_
   refine kH ?_;refine jn ?_;refine kO ?_;refine WpD.condF rfl ?_;refine kO ?_;refine WpD.skip ?_;refine⟨(),?_⟩;exact Sub.mk sJ sJ
  ·have b1:decide ((a.length:Int)≤1)=false:=decide_eq_false oM
   refine kR ?_;refine jm jj<|jE jj<|jS (bVe jj jj b1)<|jm jj ?_;refine kG ?_;first|refine jg (dQ jj CSlice.ok) ?_|refine jk ?_
   first|refine jg (aY jj jj (fun w=>pU w _ _ _ _ _ _)) ?_|refine jk ?_
   refine kH ?_;refine jn ?_;refine kO ?_;refine WpD.condF rfl ?_;refine kO ?_;refine WpD.skip ?_;refine⟨(),?_⟩;exact Sub.mk sJ sJ
 rintro⟨⟩;have e4:IntKind.i64.wrap ((a.length:Int)+(b.length:Int))=((a.length+b.length:Nat):Int):=by rw[w64 oM oM];omega
 refine kR ?_;refine jm jj<|jE jj<|jm jj<|jE jj<|vAd jj e4<|jT (nT jj jj jj jj oM oM)<|vZ jj ?_;refine kR ?_;refine jm jj<|jE jj<|jm jj<|jn ?_;refine kO ?_;refine WpD.loop (α:={p:Nat×List Nat//p.1≤a.length∧ProdInv a b p.1 p.2}) (fun p=>⟨[(1,.one (mag b)),(5,.own 31 0 (a.length+b.length) (a.length+b.length)),(32,.one (mag a)),(33,.one (i6 a.length)),(34,.one (i6 p.1.1))],[(31,(p.1.2++List.replicate (a.length-p.1.1) 0).map lb)]⟩) (fun p=>a.length-p.1.1) ⟨(0,List.replicate b.length 0),Nat.zero_le _,ProdInv.start a b⟩ ?_ ?_
 ·have hz:List.replicate (a.length+b.length) (ex (.int .u32 0))=(List.replicate b.length 0++List.replicate (a.length-0) 0).map lb:=by
   rw[qR,List.replicate_append_replicate,Nat.sub_zero,Nat.add_comm]
  exact Sub.mk sJ ⟨.inl ⟨_,jj,PsLe.of_eq hz⟩,trivial⟩
 rintro⟨⟨i,Q⟩,hi,hP⟩;simp only at hi hP;dsimp only;obtain⟨hQl,hQm,hQv⟩:=id hP
 by_cases hlt:i<a.length
 ·obtain⟨x,hx⟩:∃x,a[i]? =some x:=⟨_,List.getElem?_eq_getElem hlt⟩
  have hxB:=hla.get hx;have b1:decide ((i:Int)<(a.length:Int))=true:=decide_eq_true oM;have e13:IntKind.i64.wrap ((i:Int)+1)=((i+1:Nat):Int):=by rw[w64 oM oM];omega
  have hrep:List.replicate (a.length-i) 0=0::List.replicate (a.length-(i+1)) 0:=by rw[show a.length-i=(a.length-(i+1))+1 by omega,List.replicate_succ]
  refine kR ?_;refine jS (bVl jj jj b1)<|jn ?_;refine kO ?_;refine WpD.condT rfl ?_;refine kO ?_;refine WpD.skip ?_;refine kR ?_;refine jm jj<|jS (bY jj jj aM)<|vT jj<|ja jj<|vZ jj ?_
  by_cases hx0:x=0
  ·have b2:((x:Int)==0)=true:=by rw[hx0];rfl
   rw[hx0] at hx;refine kR ?_;refine jm jj<|jS (bVq jj jj b2)<|jn ?_;refine kO ?_;refine WpD.condT rfl ?_;refine kO ?_;refine WpD.exit ?_;refine kR ?_;refine vAd jj e13<|jm jj<|jn ?_;refine⟨⟨(i+1,Q++[0]),hlt,hP.zero hx⟩,?_,by simp only;omega⟩
   have hz:(Q++List.replicate (a.length-i) 0).map lb=((Q++[0])++List.replicate (a.length-(i+1)) 0).map lb:=by rw[hrep];simp
   exact Sub.mk sJ ⟨.inl ⟨_,jj,PsLe.of_eq hz⟩,trivial⟩
  ·have b2:((x:Int)==0)=false:=by rw[beq_eq_false_iff_ne];omega
   have e5:IntKind.i64.wrap ((i:Int)+(b.length:Int))=(i:Int)+(b.length:Int):=w64 oM oM;have e6:IntKind.i64.wrap ((i:Int)+(b.length:Int)+1)=((i+b.length+1:Nat):Int):=by rw[w64 oM oM];omega
   refine kR ?_;refine jm jj<|jS (bVq jj jj b2)<|jn ?_;refine kO ?_;refine WpD.condF rfl ?_;refine kO ?_;refine WpD.skip ?_;refine kR ?_;refine vV jj jj<|vV jj jj<|jE jj<|vAd jj e5<|vAd jj e6<|jS (xT jj jj jj oM oM oM)<|vZ jj ?_;refine kR ?_;refine vZ jj ?_;refine kR ?_;refine jm jj<|jE jj<|jm jj<|jn ?_;refine kO ?_;refine WpD.loop (α:={p:Nat×List Nat×Nat//p.1≤b.length∧MulInv (Q.drop i) b x p.1 p.2.1 p.2.2}) (fun p=>⟨[(1,.one (mag b)),(5,.own 31 0 (a.length+b.length) (a.length+b.length)),(7,.one (lb x)),(8,.own 31 (0+i) (i+b.length+1-i) (a.length+b.length-i)),(9,.one (ex (.int .u64 (p.1.2.2:Int)))),(32,.one (mag a)),(33,.one (i6 a.length)),(34,.one (i6 i)),(49,.one (mag b)),(50,.one (i6 b.length)),(51,.one (i6 p.1.1))],[(31,(Q.take i++(p.1.2.1++((Q.drop i).drop p.1.1++List.replicate (a.length-i) 0))).map lb)]⟩) (fun p=>b.length-p.1.1) ⟨(0,[],0),Nat.zero_le _,MulInv.start _ _ _⟩ ?_ ?_
   ·have hz:(Q++List.replicate (a.length-i) 0).map lb=(Q.take i++([]++((Q.drop i).drop 0++List.replicate (a.length-i) 0))).map lb:=by
     rw[List.drop_zero,List.nil_append,←List.append_assoc,List.take_append_drop]
    exact Sub.mk sJ ⟨.inl ⟨_,jj,PsLe.of_eq hz⟩,trivial⟩
   rintro⟨⟨j,N,c⟩,hj,hM⟩;simp only at hj hM;dsimp only;obtain⟨hNl,hNm,hcB,_⟩:=id hM;have hti:(Q.take i).length=i:=by simp;omega
   have hRl:(Q.drop i).length=b.length:=by simp;omega
   have hRm:=hQm.drop i
   by_cases hjb:j<b.length
   ·obtain⟨y,hy⟩:∃y,b[j]? =some y:=⟨_,List.getElem?_eq_getElem hjb⟩
    obtain⟨r,hr⟩:∃r,(Q.drop i)[j]? =some r:=⟨_,List.getElem?_eq_getElem oM⟩;have hyB:=hlb.get hy;have hrB:=hRm.get hr;obtain⟨m1,m2⟩:=mO hcB hxB hyB hrB;have hM':=MulInv.step hxB hRm hlb hy hr hM;rw[bM] at hxB hyB hrB hcB m1;have b3:decide ((j:Int)<(b.length:Int))=true:=decide_eq_true oM;have e2:IntKind.u64.wrap (x:Int)=(x:Int):=fC oM oM;have e4':IntKind.u64.wrap (y:Int)=(y:Int):=fC oM oM;have e5':IntKind.u64.wrap ((x:Int)*(y:Int))=((x*y:Nat):Int):=by rw[←Int.natCast_mul];exact fC oM oM
    have e10:IntKind.u64.wrap (r:Int)=(r:Int):=fC oM oM;have e11:IntKind.u64.wrap (((x*y:Nat):Int)+(r:Int))=((x*y+r:Nat):Int):=by rw[fC oM oM];omega
    have e12:IntKind.u64.wrap ((c:Int)+((x*y+r:Nat):Int))=((c+(x*y+r):Nat):Int):=by rw[fC oM oM];omega
    have hdr:(Q.drop i).drop j=r::(Q.drop i).drop (j+1):=by rw[List.drop_eq_getElem_cons (by omega:j<(Q.drop i).length),(List.getElem?_eq_some_iff.1 hr).2]
    have hidx:j<i+b.length+1-i:=oM;have hget:((Q.take i++(N++((Q.drop i).drop j++List.replicate (a.length-i) 0))).map lb)[0+i+j]? =some (lb r):=by
     refine hZz ?_;rw[List.getElem?_append_right oM,hti,List.getElem?_append_right oM,hNl,hdr,show 0+i+j-i-j=0 by omega]
     rfl
    have hsetl:0+i+j<((Q.take i++(N++((Q.drop i).drop j++List.replicate (a.length-i) 0))).map lb).length:=by simp only[List.length_map,List.length_append,hti,hNl,List.length_drop,List.length_replicate];omega
    have hset:((Q.take i++(N++((Q.drop i).drop j++List.replicate (a.length-i) 0))).map lb).set (0+i+j) (ex (.int .u32 (((c+(x*y+r))%B:Nat):Int)))=(Q.take i++((N++[(c+(x*y+r))%B])++((Q.drop i).drop (j+1)++List.replicate (a.length-i) 0))).map lb:=by
     rw[hdr];have:=bZ2 (Q.take i++N) ((Q.drop i).drop (j+1)++List.replicate (a.length-i) 0) r ((c+(x*y+r))%B);rw[List.length_append,hti,hNl] at this;rw[show 0+i+j=i+j by omega]
     simp only[List.append_assoc,List.cons_append,List.nil_append] at this ⊢;exact this
    have e16:IntKind.i64.wrap ((j:Int)+1)=((j+1:Nat):Int):=by rw[w64 oM oM];omega
    refine kR ?_;refine jS (bVl jj jj b3)<|jn ?_;refine kO ?_;refine WpD.condT rfl ?_;refine kO ?_;refine WpD.skip ?_;refine kR ?_;refine jm jj<|jS (bY jj jj aM)<|vT jj<|ja jj<|vZ jj ?_;refine kR ?_;refine vV jj jj<|jS (bCv jj e2)<|jm jj<|jS (bCv jj e4')<|vMu jj e5'<|vV jj jj<|jS (eO jj jj aO)<|jS (aX jj jj aM)<|jS (bCv jj e10)<|vAd jj e11<|vAd jj e12<|vZ jj ?_;refine kR ?_;refine vV jj jj<|jm jj<|jS (bCv jj (nO _))<|jS (eO jj jj aO)<|jO (bX jj jj jj aM aM)<|jn ?_;refine kR ?_;refine jm jj<|jS (aH jj jj (fun w=>dF w _ _ _ _ _ _ _ aW) (dV (rV _)))<|vZ jj ?_;refine kR ?_;refine vAd jj e16<|jm jj<|jn ?_;refine⟨⟨(j+1,N++[(c+(x*y+r))%B],(c+(x*y+r))/B),hjb,hM'⟩,?_,by simp only;omega⟩
    exact Sub.mk sJ sJ
   ·have b3:decide ((j:Int)<(b.length:Int))=false:=decide_eq_false oM
    have hjb':j=b.length:=oM;subst hjb';have hidx:b.length<i+b.length+1-i:=oM;have hdr:(Q.drop i).drop b.length=[]:=List.drop_eq_nil_of_le oM;have hcw:((c%B:Nat):Int)=(c:Int):=by rw[Nat.mod_eq_of_lt hcB]
    have hsetl:0+i+b.length<((Q.take i++(N++((Q.drop i).drop b.length++List.replicate (a.length-i) 0))).map lb).length:=by simp only[List.length_map,List.length_append,hti,hNl,List.length_drop,List.length_replicate];omega
    have hset:((Q.take i++(N++((Q.drop i).drop b.length++List.replicate (a.length-i) 0))).map lb).set (0+i+b.length) (ex (.int .u32 (c:Int)))=((Q.take i++N++[c])++List.replicate (a.length-(i+1)) 0).map lb:=by
     rw[hdr,hrep];have:=bZ2 (Q.take i++N) (List.replicate (a.length-(i+1)) 0) 0 c;rw[List.length_append,hti,hNl] at this;rw[show 0+i+b.length=i+b.length by omega]
     simp only[List.append_assoc,List.cons_append,List.nil_append] at this ⊢;exact this
    refine kR ?_;refine jS (bVl jj jj b3)<|jn ?_;refine kO ?_;refine WpD.condF rfl ?_;refine kO ?_;refine WpD.exit ?_;refine kR ?_;refine vV jj jj<|jE jj<|jm jj<|jS (bCv jj ((nO _).trans hcw))<|jS (eO jj jj aO)<|jO (bX jj jj jj aM aM)<|jn ?_;refine kR ?_;refine vAd jj e13<|jm jj<|jn ?_;refine⟨⟨(i+1,Q.take i++N++[c]),hlt,hP.step hx hM⟩,?_,by simp only;omega⟩
    exact Sub.mk sJ sJ
 ·have b1:decide ((i:Int)<(a.length:Int))=false:=decide_eq_false oM
  have hia:i=a.length:=oM;subst hia;obtain⟨d1,d2⟩:=hP.done;have C1:=iE En Q d1 oM;rw[d2] at C1;rw[Nat.sub_self,List.replicate_zero,List.append_nil];refine kR ?_;refine jS (bVl jj jj b1)<|jn ?_;refine kO ?_;refine WpD.condF rfl ?_;refine kO ?_;refine WpD.exit ?_;refine WpD.sub (τ:=⟨[(5,.one (mag Q))],[]⟩) ?_ ?_
  ·
   refine Sub.pub 31 rfl rfl ?_ ?_ rfl
   ·repeat(first|exact trivial|refine⟨.inl ⟨pK,trivial⟩,?_⟩|refine⟨.inl ⟨⟨_,rfl,rfl⟩,oN⟩,?_⟩|refine⟨.inl ⟨⟨_,rfl,rfl⟩,⟨oN,oN⟩⟩,?_⟩|refine⟨.inr (.inl ⟨_,_,_,_,rfl,rfl,by rw[←hQl];exact fI (Nat.le_refl _) d1⟩),?_⟩|refine⟨.inr (.inr (.inl ⟨_,_,_,rfl,rfl,by rw[←hQl];exact fI (Nat.le_refl _) d1⟩)),?_⟩)
   ·repeat(first|exact trivial|refine jz ?_|refine jy rfl ?_)
  refine kR ?_;refine jm jj<|vC C1 tA<|vZ jj ?_;refine kO ?_;refine WpD.ret ?_;exact rtT rfl jj
theorem nmul(a b:List Nat)(ha:a.length≤274877906944)(hb:b.length≤274877906944)(hla:Lm a)(hlb:Lm b):Fn PZ En 97 [mag a,mag b] (mag (aE (val a*val b))):=by
 by_cases h:a.length≤1∧b.length≤1
 ·exact eZS En a b h.1 h.2 hla hlb
 ·exact iZW En a b ha hb h hla hlb
end
end
section
open Go.RowKit Limb
instance kb124:CBody PZ 124:=cB Tryz.func124
instance kb188:CBody PZ 188:=cB Tryz.func188
instance kb198:CBody PZ 198:=cB Tryz.func198
section
variable(En:Ev)
theorem qY(l:List Nat)(hl:l≠[])(hlen:l.length≤1099511627776):FnG PZ En 124 ([mag l].map .one) [] (.own 7 0 l.length l.length) [(7,l.map lb)]:=by
 have hm:l.length≤maxLen:=by unfold maxLen;omega
 have hby:l.length*4≤140737488355328:=oM;refine bL Tryz.func124 rfl Tryz.ntmps124 rfl ?_;intro w0 h0 c;refine kR ?_;refine vZ jj ?_;refine kR ?_;refine jm jj<|jS (lZ4 hl jj)<|jn ?_;refine kO ?_;refine WpD.condF rfl ?_;refine kO ?_;refine WpD.skip ?_;refine kR ?_;refine jS (yE)<|jm jj<|jT (eZF jj jj hl hm hby rfl jj)<|vZ jj ?_;refine kO ?_;refine WpD.ret ?_;exact kC rfl rfl rfl oN ⟨.inl pQ,trivial⟩
theorem bZM(l:List Nat)(hlm:Lm l)(hlen:l.length≤1099511627776):Fn PZ En 124 [mag l] (mag l):=by
 by_cases hl:l=[]
 ·subst hl
  refine Fn.nil_or ?_ ?_
  ·
   refine aA Tryz.func124 rfl Tryz.ntmps124 rfl ?_;intro w0 h0;refine kR ?_;refine vZ jj ?_;refine kR ?_;refine jm jj<|jS (lZ2 jj)<|jn ?_;refine kO ?_;refine WpD.condT rfl ?_;refine kR ?_;refine vZ jj ?_;refine kO ?_;refine WpD.ret ?_;exact wD rfl (.tmp rfl) pX
  ·
   refine aA Tryz.func124 rfl Tryz.ntmps124 rfl ?_;intro w0 h0;refine kR ?_;refine vZ jj ?_;refine kR ?_;refine jm jj<|jS (lZ5 jj)<|jn ?_;refine kO ?_;refine WpD.condF rfl ?_;refine kO ?_;refine WpD.skip ?_;refine kR ?_;refine jS (yE)<|jm jj<|jS (eZK jj jj)<|vZ jj ?_;refine kO ?_;refine WpD.ret ?_;exact rtT rfl jj
 ·exact FnG.const (qY En l hl hlen) rfl (fI (Nat.le_refl _) hlm)
theorem yH{r x:Nat}(hr:r<B)(hx:x<B):IntKind.u64.wrap ((BitVec.ofInt IntKind.u64.bits ((r*B:Nat):Int)|||BitVec.ofInt IntKind.u64.bits (x:Int)).toNat:Int)=((r*B+x:Nat):Int):=by
 have h:=bZJ (a:=x) (b:=r) (j:=32) hx (by rw[bM] at hr;omega) oM
 have e:2^32*r=r*B:=Nat.mul_comm _ _;rw[e] at h;rw[BitVec.or_comm,h,Nat.add_comm]
theorem dZr(m Z:List Nat)(d cap:Nat)(hlen:m.length≤1099511627776)(hm:Lm m)(hd:0<d)(hdB:d<B):
  FnG PZ En 125 [.own 1000 0 m.length cap,.one (lb d)] [(1000,(m++Z).map lb)] (.one (lb (val m%d))) [(1000,(pd (val m/d) m.length++Z).map lb)]:=by
 have hw:IntKind.i64.wrap ((m.length:Int)-1)=(m.length:Int)-1:=w64 oM oM;refine bL Tryz.func125 rfl Tryz.ntmps125 rfl ?_;intro w0 h0 c;refine kR ?_;refine vZ jj ?_;refine kR ?_;refine vZ jj ?_;refine kR ?_;refine jm jj<|jS (cP jj CSlice.ok)<|vSu jj hw<|vZ jj ?_;refine kO ?_;refine WpD.loop (α:={p:Nat×List Nat×Nat//p.1≤m.length∧DvInv m d p.1 p.2.1 p.2.2}) (fun p=>⟨[(0,.own 1000 0 m.length cap),(1,.one (lb d)),(5,.one (ex (.int .u64 (p.1.2.2:Int)))),(6,.one (i6 ((p.1.1:Int)-1)))],[(1000,(m.take p.1.1++(p.1.2.1++Z)).map lb)]⟩) (fun p=>p.1.1) ⟨(m.length,[],0),Nat.le_refl _,DvInv.start m hd⟩ ?_ ?_
 ·have hz:(m++Z).map lb=(m.take m.length++([]++Z)).map lb:=by rw[List.take_length,List.nil_append]
  exact Sub.mk sJ ⟨.inl ⟨_,jj,PsLe.of_eq hz⟩,trivial⟩
 rintro⟨⟨k,Q,r⟩,hk,hI⟩;simp only at hk hI;dsimp only;cases k with
 |zero=>
  obtain⟨rfl,rfl⟩:=hI.done;have b1:decide ((((0:Nat):Int)-1)≥0)=false:=by decide
  have hrB:((val m%d%B:Nat):Int)=((val m%d:Nat):Int):=by rw[Nat.mod_eq_of_lt (Nat.lt_trans (Nat.mod_lt _ hd) hdB)]
  rw[List.take_zero,List.nil_append];refine kR ?_;refine jm jj<|jS (bVh jj jj b1)<|jn ?_;refine kO ?_;refine WpD.condF rfl ?_;refine kO ?_;refine WpD.exit ?_;refine kR ?_;refine jm jj<|jS (bCv jj ((nO _).trans hrB))<|vZ jj ?_;refine kO ?_;refine WpD.ret ?_;exact kC rfl rfl (PLe.refl _) trivial ⟨.inl pQ,trivial⟩
 |succ j=>
  obtain⟨x,hx⟩:∃x,m[j]? =some x:=⟨_,List.getElem?_eq_getElem oM⟩;have hxB:=hm.get hx;obtain⟨hI',hqB⟩:=hI.step hx hm;obtain⟨hQl,hQm,hr,_⟩:=id hI;have hrB:r<B:=Nat.lt_trans hr hdB;have b1:decide ((j:Int)≥0)=true:=decide_eq_true oM;have e1:IntKind.u64.wrap ((r:Int)*2^(min (32:Int).toNat IntKind.u64.bits))=((r*B:Nat):Int):=by
   show IntKind.u64.wrap ((r:Int)*2^32)=_
   rw[bM] at hrB ⊢;rw[fC oM oM];omega
  have e6:IntKind.u64.wrap (x:Int)=(x:Int):=fC oM (by rw[bM] at hxB;omega)
  have e7:=yH hrB hxB;have hd0:(d:Int)≠0:=oM;have ed:IntKind.u64.wrap (d:Int)=(d:Int):=fC oM (by rw[bM] at hdB;omega)
  have eq:IntKind.u64.wrap (((r*B+x:Nat):Int).tdiv (d:Int))=(((r*B+x)/d:Nat):Int):=by
   rw[Int.tdiv_eq_ediv_of_nonneg (Int.natCast_nonneg _),←Int.natCast_ediv];exact fC (Int.natCast_nonneg _) (Int.ofNat_lt.2 (Nat.lt_trans hqB aD))
  have eqw:(((r*B+x)/d%B:Nat):Int)=(((r*B+x)/d:Nat):Int):=by rw[Nat.mod_eq_of_lt hqB]
  have er:((r*B+x:Nat):Int).tmod (d:Int)=(((r*B+x)%d:Nat):Int):=by
   rw[Int.tmod_eq_emod_of_nonneg (Int.natCast_nonneg _),←Int.natCast_emod]
  have hjl:j<m.length:=oM;have htk:(m.take (j+1))=m.take j++[x]:=by rw[List.take_succ_eq_append_getElem oM,(List.getElem?_eq_some_iff.1 hx).2]
  have hjt:(m.take j).length=j:=by simp;omega
  have hget:((m.take (j+1)++(Q++Z)).map lb)[j]? =some (lb x):=by
   refine hZz ?_;rw[htk,List.append_assoc,List.getElem?_append_right oM,hjt,Nat.sub_self];rfl
  have hsetl:j<((m.take (j+1)++(Q++Z)).map lb).length:=by simp;omega
  have hset:((m.take (j+1)++(Q++Z)).map lb).set j (ex (.int .u32 (((r*B+x)/d:Nat):Int)))=(m.take j++(((r*B+x)/d::Q)++Z)).map lb:=by
   have:=bZ2 (m.take j) (Q++Z) x ((r*B+x)/d);rw[hjt] at this;rw[htk];simp only[List.append_assoc,List.cons_append,List.nil_append] at this ⊢;exact this
  have e8:IntKind.i64.wrap ((j:Int)-1)=(j:Int)-1:=w64 oM oM;rw[show(((j+1:Nat):Int)-1)=(j:Int) by omega]
  refine kR ?_;refine jm jj<|jS (bVh jj jj b1)<|jn ?_;refine kO ?_;refine WpD.condT rfl ?_;refine kO ?_;refine WpD.skip ?_;refine kR ?_;refine jm jj<|jS (aH jj jj (fun w=>jD w _ _ _ _ _ _ _ aW) (dV e1))<|vV jj jj<|jS (dN jj jj aO)<|jS (aX jj jj aM)<|jS (bCv jj e6)<|jS (aH jj jj (fun w=>lK w _ _ _ _ _ _) (dV e7))<|vZ jj ?_;refine kR ?_;refine vV jj jj<|vV jj jj<|jS (bCv jj ed)<|jS (bQu jj jj eq)<|jS (bCv jj ((nO _).trans eqw))<|jS (dN jj jj aO)<|jO (bX jj jj jj aM aM)<|jn ?_;refine kR ?_;refine vV jj jj<|jS (bCv jj ed)<|jS (bRe jj jj er)<|vZ jj ?_;refine kR ?_;refine jm jj<|vSu jj e8<|vZ jj ?_;refine⟨⟨(j,(r*B+x)/d::Q,(r*B+x)%d),by simp only;omega,hI'⟩,?_,Nat.lt_succ_self j⟩
  exact Sub.mk sJ sJ
theorem dZn(m:List Nat)(s:Nat)(hlen:m.length≤1099511627776)(hm:Lm m)(hs:s<32):
  FnG PZ En 189 ([mag m,i6 s].map .one) [] (.own 12 0 (m.length+1) (m.length+1)) [(12,(pd (val m*2^s) (m.length+1)).map lb)]:=by
 have e2:IntKind.i64.wrap ((m.length:Int)+1)=((m.length+1:Nat):Int):=by rw[w64 oM oM];omega
 have hs0:(0:Int)≤(s:Int):=Int.natCast_nonneg _;have hB:2^s≤B:=by rw[show B=2^32 from rfl];exact Nat.pow_le_pow_right oM oM
 refine bL Tryz.func189 rfl Tryz.ntmps189 rfl ?_;intro w0 h0 c;refine kR ?_;refine vZ jj ?_;refine kR ?_;refine jm jj<|jE jj<|vAd jj e2<|jT (nT jj jj jj jj oM oM)<|vZ jj ?_;refine kR ?_;refine vZ jj ?_;refine kR ?_;refine jm jj<|jE jj<|jm jj<|jn ?_;refine kO ?_;refine WpD.loop (α:={p:Nat×List Nat×Nat//p.1≤m.length∧ShlInv m s p.1 p.2.1 p.2.2}) (fun p=>⟨[(0,.one (mag m)),(1,.one (i6 s)),(5,.own 12 0 (m.length+1) (m.length+1)),(6,.one (ex (.int .u64 (p.1.2.2:Int)))),(13,.one (mag m)),(14,.one (i6 m.length)),(15,.one (i6 p.1.1))],[(12,(p.1.2.1++List.replicate (m.length+1-p.1.1) 0).map lb)]⟩) (fun p=>m.length-p.1.1) ⟨(0,[],0),Nat.zero_le _,ShlInv.start m s⟩ ?_ ?_
 ·
  exact Sub.mk sJ ⟨.inl ⟨_,jj,PsLe.of_eq (qR _)⟩,trivial⟩
 rintro⟨⟨k,N,c⟩,hk,hI⟩;simp only at hk hI;dsimp only;obtain⟨hNl,hNm,hc,_⟩:=id hI
 by_cases hlt:k<m.length
 ·obtain⟨x,hx⟩:∃x,m[k]? =some x:=⟨_,List.getElem?_eq_getElem hlt⟩
  have hxB:=hm.get hx;obtain⟨hI',ht⟩:=hI.step hx hm;have htB:2^s*B≤B*B:=Nat.mul_le_mul_right _ hB;have hBB:B*B=18446744073709551616:=by decide
  have b1:decide ((k:Int)<(m.length:Int))=true:=decide_eq_true oM;have e5:IntKind.u64.wrap (x:Int)=(x:Int):=fC oM (by rw[bM] at hxB;omega)
  have h64:2^s*x<18446744073709551616:=oM;have e6:IntKind.u64.wrap ((x:Int)*2^(min ((s:Int)).toNat IntKind.u64.bits))=((2^s*x:Nat):Int):=by
   rw[Int.toNat_natCast,show min s IntKind.u64.bits=s from Nat.min_eq_left (by show s≤64;omega)]
   rw[show(x:Int)*2^s=((2^s*x:Nat):Int) by rw[Int.natCast_mul,Int.natCast_pow,Int.mul_comm];rfl]
   exact fC (Int.natCast_nonneg _) (Int.ofNat_lt.2 h64)
  have e7:=bZJ hc h64 oM;have hkn:k<m.length+1:=oM;have hmm:m.length+1-k=(m.length-k)+1:=oM;have hsetl:k<((N++List.replicate (m.length+1-k) 0).map lb).length:=by simp;omega
  have hset:((N++List.replicate (m.length+1-k) 0).map lb).set k (ex (.int .u32 (((c+2^s*x)%B:Nat):Int)))=((N++[(c+2^s*x)%B])++List.replicate (m.length+1-(k+1)) 0).map lb:=by
   rw[hmm,show m.length+1-(k+1)=m.length-k by omega];exact aZw hNl
  have e13:IntKind.i64.wrap ((k:Int)+1)=((k+1:Nat):Int):=by rw[w64 oM oM];omega
  refine kR ?_;refine jS (bVl jj jj b1)<|jn ?_;refine kO ?_;refine WpD.condT rfl ?_;refine kO ?_;refine WpD.skip ?_;refine kR ?_;refine jm jj<|jS (bY jj jj aM)<|vT jj<|ja jj<|vZ jj ?_;refine kR ?_;refine vV jj jj<|jS (bCv jj e5)<|jm jj<|jS (aH jj jj (fun w=>jD w _ _ _ _ _ _ _ aW) (dV e6))<|jS (aH jj jj (fun w=>lK w _ _ _ _ _ _) (dV e7))<|vZ jj ?_;refine kR ?_;refine vV jj jj<|jm jj<|jS (bCv jj (nO _))<|jS (dN jj jj aO)<|jO (bX jj jj jj aM aM)<|jn ?_;refine kR ?_;refine jm jj<|jS (aH jj jj (fun w=>dF w _ _ _ _ _ _ _ aW) (dV (rV _)))<|vZ jj ?_;refine kR ?_;refine vAd jj e13<|jm jj<|jn ?_;refine⟨⟨(k+1,N++[(c+2^s*x)%B],(c+2^s*x)/B),hlt,hI'⟩,?_,by simp only;omega⟩
  exact Sub.mk sJ sJ
 ·have b1:decide ((k:Int)<(m.length:Int))=false:=decide_eq_false oM
  have hkm:k=m.length:=oM;subst hkm;obtain⟨d1,d2⟩:=hI.done hs;have hkn:m.length<m.length+1:=oM;have hsetl:m.length<((N++List.replicate (m.length+1-m.length) 0).map lb).length:=by simp;omega
  have hcw:((c%B:Nat):Int)=(c:Int):=by rw[Nat.mod_eq_of_lt d2]
  have hset:((N++List.replicate (m.length+1-m.length) 0).map lb).set m.length (ex (.int .u32 (c:Int)))=(pd (val m*2^s) (m.length+1)).map lb:=by
   rw[←d1,show m.length+1-m.length=0+1 by omega,show(N++[c]).map lb=((N++[c])++List.replicate 0 0).map lb by simp];exact aZw hNl
  refine kR ?_;refine jS (bVl jj jj b1)<|jn ?_;refine kO ?_;refine WpD.condF rfl ?_;refine kO ?_;refine WpD.exit ?_;refine kR ?_;refine vV jj jj<|jE jj<|jm jj<|jS (bCv jj ((nO _).trans hcw))<|jS (dN jj jj aO)<|jO (bX jj jj jj aM aM)<|jn ?_;refine kR ?_;refine jm jj<|vZ jj ?_;refine kO ?_;refine WpD.ret ?_;exact kC rfl rfl rfl oN ⟨.inl pQ,trivial⟩
theorem nshl(m:List Nat)(s:Nat)(hlen:m.length≤1099511627776)(hm:Lm m)(hs:s<32):
  Fn PZ En 189 [mag m,i6 s] (mag (pd (val m*2^s) (m.length+1))):=by
 refine FnG.const (dZn En m s hlen hm hs) rfl ?_;have:=fI (l:=pd (val m*2^s) (m.length+1)) (cap:=m.length+1) (by rw[dO];omega) (oZ _ _)
 rwa[dO] at this
theorem nshr(m Z:List Nat)(s cap:Nat)(hlen:m.length≤1099511627776)(hm:Lm m)(hs:s<32):
  FnG PZ En 191 [.own 1000 0 m.length cap,.one (i6 s)] [(1000,(m++Z).map lb)] (.one (ex (.tuple #[]))) [(1000,(pd (val m/2^s) m.length++Z).map lb)]:=by
 have hs0:(0:Int)≤(s:Int):=Int.natCast_nonneg _;refine bL Tryz.func191 rfl Tryz.ntmps191 rfl ?_;intro w0 h0 c;refine kR ?_;refine jm jj<|jS (cP jj CSlice.ok)<|jm jj<|jn ?_;refine kO ?_;refine WpD.loop (α:={p:Nat×List Nat//p.1≤m.length∧ShrInv m s p.1 p.2}) (fun p=>⟨[(0,.own 1000 0 m.length cap),(1,.one (i6 s)),(7,.one (i6 m.length)),(8,.one (i6 p.1.1))],[(1000,(p.1.2++(m.drop p.1.1++Z)).map lb)]⟩) (fun p=>m.length-p.1.1) ⟨(0,[]),Nat.zero_le _,ShrInv.start m s⟩ ?_ ?_
 ·
  exact Sub.mk sJ sJ
 rintro⟨⟨k,N⟩,hk,hI⟩;simp only at hk hI;dsimp only;obtain⟨hNl,hNm,_⟩:=id hI
 by_cases hlt:k<m.length
 ·obtain⟨x,hx⟩:∃x,m[k]? =some x:=⟨_,List.getElem?_eq_getElem hlt⟩
  have hxB:=hm.get hx;have hI':=hI.step hs hx hm;obtain⟨y,hy⟩:∃y,m[k+1]?.getD 0=y:=⟨_,rfl⟩;rw[hy] at hI';have hyB:y<B:=by rw[←hy];exact kV hm (k+1)
  have hdr:m.drop k=x::m.drop (k+1):=by rw[List.drop_eq_getElem_cons hlt,(List.getElem?_eq_some_iff.1 hx).2]
  have b1:decide ((k:Int)<(m.length:Int))=true:=decide_eq_true oM;have e1:IntKind.i64.wrap ((k:Int)+1)=((k+1:Nat):Int):=by rw[w64 oM oM];omega
  have e4:IntKind.u64.wrap (x:Int)=(x:Int):=fC oM (by rw[bM] at hxB;omega)
  have hget:((N++(m.drop k++Z)).map lb)[k]? =some (lb x):=by
   refine hZz ?_;rw[List.getElem?_append_right oM,hNl,Nat.sub_self,hdr];rfl
  have hsetl:k<((N++(m.drop k++Z)).map lb).length:=by simp;omega
  obtain⟨q,hq⟩:∃q,(x+B*y)/2^s=q:=⟨_,rfl⟩;have hset:((N++(m.drop k++Z)).map lb).set k (ex (.int .u32 ((q%B:Nat):Int)))=((N++[q%B])++(m.drop (k+1)++Z)).map lb:=by
   have:=bZ2 N (m.drop (k+1)++Z) x (q%B);rw[hNl] at this;rw[hdr];simp only[List.append_assoc,List.cons_append,List.nil_append] at this ⊢;exact this
  refine kR ?_;refine jS (bVl jj jj b1)<|jn ?_;refine kO ?_;refine WpD.condT rfl ?_;refine kO ?_;refine WpD.skip ?_;refine kR ?_;refine jm jj<|vZ jj ?_;refine kR ?_;refine vV jj jj<|jS (dN jj jj aO)<|jS (aX jj jj aM)<|jS (bCv jj e4)<|vZ jj ?_;refine WpD.cut (α:=Unit) (fun _=>⟨[(0,.own 1000 0 m.length cap),(1,.one (i6 s)),(4,.one (i6 k)),(5,.one (ex (.int .u64 ((x+B*y:Nat):Int)))),(7,.one (i6 m.length)),(8,.one (i6 k))],[(1000,(N++(m.drop k++Z)).map lb)]⟩) ?_ ?_
  ·by_cases hk1:k+1<m.length
   ·have b2:decide (((k+1:Nat):Int)<(m.length:Int))=true:=decide_eq_true oM
    have hy':m[k+1]? =some y:=by rw[←hy,List.getElem?_eq_getElem hk1];rfl
    have hget1:((N++(m.drop k++Z)).map lb)[k+1]? =some (lb y):=by
     refine hZz ?_;rw[List.getElem?_append_right oM,hNl,show k+1-k=1 by omega,hdr]
     rw[List.cons_append,List.getElem?_cons_succ,List.getElem?_append_left (by simp;omega),List.getElem?_drop,Nat.add_zero];exact hy'
    have e6:IntKind.u64.wrap (y:Int)=(y:Int):=fC oM (by rw[bM] at hyB;omega)
    have e7:IntKind.u64.wrap ((y:Int)*2^(min (32:Int).toNat IntKind.u64.bits))=((2^32*y:Nat):Int):=by
     show IntKind.u64.wrap ((y:Int)*2^32)=_
     rw[bM] at hyB;rw[fC oM oM];omega
    have e8:=bZJ (a:=x) (b:=y) (j:=32) hxB (by rw[bM] at hyB;omega) oM
    refine kR ?_;refine jm jj<|vAd jj e1<|jm jj<|jS (cP jj CSlice.ok)<|jS (bVl jj jj b2)<|jn ?_;refine kO ?_;refine WpD.condT rfl ?_;refine kR ?_;refine vV jj jj<|jm jj<|vAd jj e1<|jS (dN jj jj aO)<|jS (aX jj jj aM)<|jS (bCv jj e6)<|jS (aH jj jj (fun w=>jD w _ _ _ _ _ _ _ aW) (dV e7))<|jS (aH jj jj (fun w=>lK w _ _ _ _ _ _) (dV e8))<|vZ jj ?_;refine⟨(),?_⟩;exact Sub.mk sJ sJ
   ·have b2:decide (((k+1:Nat):Int)<(m.length:Int))=false:=decide_eq_false oM
    have hy0:y=0:=by rw[←hy,List.getElem?_eq_none oM];rfl
    subst hy0;refine kR ?_;refine jm jj<|vAd jj e1<|jm jj<|jS (cP jj CSlice.ok)<|jS (bVl jj jj b2)<|jn ?_;refine kO ?_;refine WpD.condF rfl ?_;refine kO ?_;refine WpD.skip ?_;refine⟨(),?_⟩;exact Sub.mk sJ sJ
  ·rintro⟨⟩
   have e5:((x+B*y:Nat):Int).fdiv (2^(min ((s:Int)).toNat IntKind.u64.bits))=(q:Int):=by
    rw[Int.toNat_natCast,show min s IntKind.u64.bits=s from Nat.min_eq_left (by show s≤64;omega)]
    rw[Int.fdiv_eq_ediv_of_nonneg _ (by exact_mod_cast Nat.zero_le _),←hq]
    norm_cast
   rw[hq] at hI';refine kR ?_;refine vV jj jj<|vV jj jj<|jS (aH jj jj (fun w=>dF w _ _ _ _ _ _ _ aW) (dV e5))<|jS (bCv jj (nO _))<|jS (dN jj jj aO)<|jO (bX jj jj jj aM aM)<|jn ?_;refine kR ?_;refine vAd jj e1<|jm jj<|jn ?_;refine⟨⟨(k+1,N++[q%B]),hlt,hI'⟩,?_,by simp only;omega⟩
   exact Sub.mk sJ sJ
 ·have b1:decide ((k:Int)<(m.length:Int))=false:=decide_eq_false oM
  have hkm:k=m.length:=oM;subst hkm;have hd:=hI.done;subst hd;rw[List.drop_length,List.nil_append];refine kR ?_;refine jS (bVl jj jj b1)<|jn ?_;refine kO ?_;refine WpD.condF rfl ?_;refine kO ?_;refine WpD.exit ?_;exact fZN rfl ⟨.inl pQ,trivial⟩
end
end
end Go.Proofs.YtfmjdlogjmofbaaGreatDoor

/- A lattice that is handed to a law: its struct, opened. -/
import Derived.Test.YtfmjdlogjmofbaaGreatDoorK
import Derived.Test.YtfmjdlogjmofbaaGreatDoorGm
import Derived.Lib.SmallJoins
import Derived.Test.YtfmjdlogjmofbaaGreatDoorJ
import Derived.Test.YtfmjdlogjmofbaaGreatDoorV
import Derived.Test.YtfmjdlogjmofbaaGreatDoorW
set_option maxHeartbeats 4000000
set_option maxRecDepth 3000
namespace Go.Proofs.YtfmjdlogjmofbaaGreatDoor
section
open Go.RowKit Limb Go.ChangeShapes Go.WideShapes Go.Joins
theorem aZE(f:Nat→Int):∀n,aS (fun i=>ex (.int .i8 (f i))) n=((List.range n).map fun i=>Value.int .i8 (f i)).map ex
 |0=>rfl
 |n+1=>by
  have ih:=aZE f n;unfold aS at ih ⊢;rw[rowL,ih,List.range_succ,List.map_append,List.map_append];rfl
section
variable{H:Type}{enc:TypeId×Value→H}{P:Program}{W:World}{base:Nat}{T t8 ts ti:TypeId}{f0 f1 f2 f3:Field}
theorem dZl{n:Nat}{u:Value}{y:DataW H×List MemPlace}(hs:P.underlying ts=some (.slice ti))(hi:P.underlying ti=some (.int .i8))(ci:P.cellsOf ti=1)(h:DataW.trod enc P W 0 (fun _=>true) true n ts [u]=some y):∃f N,Tp f N∧(tpL f N).p (wGH W) u:=by
 rcases DataW.trod_slice hs h with⟨e1,_⟩|⟨a,len,cap,elems,rest,m,_,e1,_,hb,hlc,hcm,hlen,hel,_,_⟩
 ·simp at e1
  subst e1;exact⟨fun _=>0,0,⟨oM,fun _=>oM,fun _=>oM⟩,none,0,rfl,Nat.le_refl _,Nat.zero_le _,fun _=>rfl,rfl,fun hn=>absurd rfl hn⟩
 ·simp at e1
  subst e1;have each:∀i,i<len→∃z:Int,(-128≤z∧z<128)∧W.cells? 0 (a.add (i*1)) 1=some [.int .i8 z]:=by
   intro i hi';have h2:=hel i hi';rw[ci,List.getElem?_eq_getElem oM] at h2;obtain⟨cs',q1,q2⟩:=Option.bind_eq_some_iff.1 h2;obtain⟨z,e0,_,wz⟩:=DataW.trod_int hi q2;have hb2:=bounds_i8 wz;subst e0;exact⟨z,⟨hb2.1,oM⟩,q1⟩
  have hch:∃f:Nat→Int,(∀i,-128≤f i∧f i<128)∧∀i,i<len→W.cells? 0 (a.add (i*1)) 1=some [.int .i8 (f i)]:=by
   refine⟨fun i=>if hi:i<len then(each i hi).choose else 0,fun i=>?_,fun i hi=>?_⟩
   ·dsimp only
    by_cases h:i<len
    ·rw[dif_pos h];exact(each i h).choose_spec.1
    ·rw[dif_neg h];omega
   ·dsimp only
    rw[dif_pos hi];exact(each i hi).choose_spec.2
  obtain⟨f,hf,hxx⟩:=hch;refine⟨f,len,⟨by have:cap≤2^63-1:=hcm;omega,fun i=>(hf i).1,fun i=>(hf i).2⟩,some a,cap,rfl,hlc,hcm,(fun h=>by cases h),by rw[eG,Nat.mul_one],fun hne=>?_⟩
  have hpos:0<len:=by
   rcases Nat.eq_zero_or_pos len with h|h
   ·subst h;exact absurd rfl hne
   ·exact h
  have hcell:∀i,i<len→W.cell? (a.add i)=some (.int .i8 (f i)):=by
   intro i hi';have:=(World.cells?_some (hxx i hi')).2.2 0 oM;rw[Nat.mul_one] at this;simpa [Addr.add] using this
  obtain⟨bb,off,spot⟩:=a;have hspot:spot=none:=by
   have:=World.cell?_spot (hcell 0 hpos);simpa [Addr.add] using this
  subst hspot;refine⟨bb,off,(List.range len).map fun i=> .int .i8 (f i),rfl,?_,fun j v hv=>?_⟩
  ·rw[aZE f len]
   exact mL fun v hv=>by
    obtain⟨i,_,rfl⟩:=List.mem_map.1 hv;rfl
  ·rw[List.getElem?_map] at hv
   obtain⟨i,h1,rfl⟩:=Option.map_eq_some_iff.1 hv;have h2:=(List.getElem?_eq_some_iff.1 h1);obtain⟨h3,h4⟩:=h2;rw[List.getElem_range] at h4;subst h4;have:=hcell j (by simpa using h3)
   rwa[Addr.add_mid] at this
theorem iZR{v:Value}{d:DataW H}{p:List MemPlace}(hT:P.underlying T=some (.struct #[f0,f1,f2,f3]))(h0:f0.type=t8)(o0:f0.offset=0)(h1:f1.type=t8)(o1:f1.offset=1)(h2:f2.type=ts)(o2:f2.offset=2)(h3:f3.type=ts)(o3:f3.offset=3)(cT:P.cellsOf T=4)(c0:P.cellsOf t8=1)(c1:P.cellsOf ts=1)
  (h8:P.underlying t8=some (.int .u8)) (hs:P.underlying ts=some (.slice ti)) (hi:P.underlying ti=some (.int .i8)) (ci:P.cellsOf ti=1)
  (hval:Value.okWide P W .any base T v) (h:DataW.Trod enc P W 0 (fun _=>true) true T v d p):
  ∃dim kind f N f' N',Tp f N∧dim<256∧(jZ0 dim kind f N f' N').p (wGH W) v:=by
 obtain⟨cs,rfl,hsz⟩:=okWide_struct hT hval;obtain⟨fuel,hf⟩:=h;have hf:DataW.trod enc P W 0 (fun _=>true) true fuel T cs.toList=some (d,p):=hf;obtain⟨y0,y1,y2,y3,n,hx,hl,g0,g1,g2,g3⟩:=trod_struct4 hT hf;rw[h0,o0,c0] at g0;rw[h1,o1,c0] at g1;rw[h2,o2,c1] at g2;rw[h3,o3,c1] at g3;obtain⟨u0,u1,u2,u3,hcs⟩:∃u0 u1 u2 u3,cs.toList=[u0,u1,u2,u3]:=by
  rw[cT] at hl;match hc:cs.toList,hl with
  |[u0,u1,u2,u3],_=>exact⟨u0,u1,u2,u3,rfl⟩
 rw[hcs] at g0 g1 g2 g3;obtain⟨x0,e0,_,w0⟩:=DataW.trod_int h8 (show DataW.trod enc P W 0 (fun _=>true) true n t8 [u0]=some y0 from g0)
 obtain⟨x1,e1,_,w1⟩:=DataW.trod_int h8 (show DataW.trod enc P W 0 (fun _=>true) true n t8 [u1]=some y1 from g1)
 simp at e0 e1;subst e0 e1;obtain⟨f,N,hT1,hp2⟩:=dZl hs hi ci (show DataW.trod enc P W 0 (fun _=>true) true n ts [u2]=some y2 from g2)
 obtain⟨f',N',_,hp3⟩:=dZl hs hi ci (show DataW.trod enc P W 0 (fun _=>true) true n ts [u3]=some y3 from g3)
 have b0:=bounds_u8 w0;have b1:=bounds_u8 w1;obtain⟨a0,rfl⟩:=Int.eq_ofNat_of_zero_le b0.1;obtain⟨a1,rfl⟩:=Int.eq_ofNat_of_zero_le b1.1;have hag:cs= #[.int .u8 (a0:Int),.int .u8 (a1:Int),u2,u3]:=by rw[←Array.toList_inj];exact hcs
 subst hag;exact⟨a0,a1,f,N,f',N',hT1,oM,[.int .u8 (a0:Int),.int .u8 (a1:Int),u2,u3],rfl,rfl,rfl,rfl,rfl,hp2,C1.c1 _ _ hp2,hp3,C1.c1 _ _ hp3,trivial⟩
end
end
section
open Go.RowKit Limb
def CMv(μ:Nat→Nat)(cb:Bx)(p' p:Pd):Prop:=(p'=p∧Flat p)∨∃i o l c,p'=dC (μ i) o l c∧p=dC i o l c∧aB cb i≠none
def CsMv(μ:Nat→Nat)(cb:Bx):List Pd→List Pd→Prop
 |[],[]=>True
 |p'::ps',p::ps=>CMv μ cb p' p∧CsMv μ cb ps' ps
 |_,_=>False
theorem CsMv.nil_iff{μ:Nat→Nat}{cb:Bx}:∀{a b:List Pd},CsMv μ cb a b→(a=[]↔b=[])
 |[],[],_=>by simp
 |_::_,_::_,_=>by simp
 |[],_::_,h=>h.elim
 |_::_,[],h=>h.elim
theorem CsMv.append{μ:Nat→Nat}{cb:Bx}:∀{a b c d:List Pd},CsMv μ cb a b→CsMv μ cb c d→CsMv μ cb (a++c) (b++d)
 |[],[],_,_,_,h=>h
 |_::_,_::_,_,_,⟨x,y⟩,h=>⟨x,CsMv.append y h⟩
 |[],_::_,_,_,h,_=>h.elim
 |_::_,[],_,_,h,_=>h.elim
theorem CsMv.out{μ:Nat→Nat}{cb:Bx}{f g:Nat→Pd}:∀{n:Nat},(∀i,i<n→CMv μ cb (f i) (g i))→CsMv μ cb (aS f n) (aS g n)
 |0,_=>trivial
 |n+1,h=>(CsMv.out fun i hi=>h i oM).append ⟨h n oM,trivial⟩
theorem CMv.own{μ:Nat→Nat}{cb:Bx}{i j o l c:Nat}(h:j=μ i)(hl:aB cb i≠none):CMv μ cb (dC j o l c) (dC i o l c):= .inr ⟨i,o,l,c,by rw[h],rfl,hl⟩
theorem CMv.flat{μ:Nat→Nat}{cb:Bx}{p:Pd}[hf:Flat p]:CMv μ cb p p:= .inl ⟨rfl,hf⟩
theorem CsMv.inn{μ:Nat→Nat}{cb:Bx}{h:GH}{β:Nat→Nat}(hg:∀i,aB cb i≠none→¬grows i∧¬grows (μ i)):∀{ps' ps:List Pd} {vs':List Value},CsMv μ cb ps' ps→All2 h ps' vs'→∃vs,vs'.map (tr β)=vs.map (tr fun i=>β (μ i))∧All2 h ps vs∧∀v∈vs,oK (fun i=>β (μ i)) cb v
 |[],[],[],_,_=>⟨[],rfl,trivial,fun _ h=>by cases h⟩
 |p'::ps',p::ps,v'::vs',⟨a,b⟩,⟨x,y,z⟩=>by
  obtain⟨vs,k1,k2,k3⟩:=CsMv.inn (β:=β) hg b z;rcases a with⟨rfl,hf⟩|⟨i,o,l,c,rfl,rfl,hl⟩
  ·have hv:=hf.flat h v' x
   refine⟨v'::vs,by rw[List.map_cons,List.map_cons,k1,gV hv,gV hv],⟨x,y,k2⟩,fun u hu=>?_⟩
   rcases List.mem_cons.1 hu with rfl|hu
   ·exact fun r o l c e=>absurd e (hv r o l c)
   ·exact k3 u hu
  ·obtain⟨g1,g2⟩:=hg i hl
   obtain⟨c',rfl,h1,h2⟩:=x;refine⟨.slice (some ⟨i,o,none⟩) l c'::vs,by rw[List.map_cons,List.map_cons,k1,eZ g1,eZ g2],⟨⟨c',rfl,h1,h2⟩,rfl,k2⟩,fun u hu=>?_⟩
   rcases List.mem_cons.1 hu with rfl|hu
   ·exact fun r o l c e=>by cases e;exact⟨hl,fun h=>absurd h g1⟩
   ·exact k3 u hu
 |[],[],_::_,_,h=>h.elim
 |_::_,_::_,[],_,h=>h.elim
 |[],_::_,_,h,_=>h.elim
 |_::_,[],_,h,_=>h.elim
theorem CsMv.ous{μ:Nat→Nat}{cb bx:Bx}{h:GH}{β β':Nat→Nat}(hg:∀i,aB cb i≠none→(¬grows i∧¬grows (μ i))∧β' i=β (μ i)∧aB bx (μ i)≠none):∀{ps' ps:List Pd} {vs:List Value},CsMv μ cb ps' ps→All2 h ps vs→∃vs',vs'.map (tr β)=vs.map (tr β')∧All2 h ps' vs'∧∀v∈vs',oK β bx v
 |[],[],[],_,_=>⟨[],rfl,trivial,fun _ h=>by cases h⟩
 |p'::ps',p::ps,v::vs,⟨a,b⟩,⟨x,y,z⟩=>by
  obtain⟨vs',k1,k2,k3⟩:=CsMv.ous hg b z;rcases a with⟨rfl,hf⟩|⟨i,o,l,c,rfl,rfl,hl⟩
  ·have hv:=hf.flat h v x
   refine⟨v::vs',by rw[List.map_cons,List.map_cons,k1,gV hv,gV hv],⟨x,y,k2⟩,fun u hu=>?_⟩
   rcases List.mem_cons.1 hu with rfl|hu
   ·exact fun r o l c e=>absurd e (hv r o l c)
   ·exact k3 u hu
  ·obtain⟨⟨g1,g2⟩,g3,g4⟩:=hg i hl
   obtain⟨c',rfl,h1,h2⟩:=x;refine⟨.slice (some ⟨μ i,o,none⟩) l c'::vs',by rw[List.map_cons,List.map_cons,k1,eZ g1,eZ g2,g3],⟨⟨c',rfl,h1,h2⟩,rfl,k2⟩,fun u hu=>?_⟩
   rcases List.mem_cons.1 hu with rfl|hu
   ·exact fun r o l c e=>by cases e;exact⟨g4,fun h=>absurd h g2⟩
   ·exact k3 u hu
 |[],[],_::_,_,h=>h.elim
 |_::_,_::_,[],_,h=>h.elim
 |[],_::_,_,h,_=>h.elim
 |_::_,[],_,h,_=>h.elim
def BoxRel(μ:Nat→Nat)(cb:Bx)(i:Nat)(ps' ps:List Pd):Prop:=(lk i=true∧CsMv μ cb ps' ps)∨(lk i=false∧ps'=ps)
theorem BoxRel.nil_iff{μ:Nat→Nat}{cb:Bx}{i:Nat}{a b:List Pd}(h:BoxRel μ cb i a b):a=[]↔b=[]:=by
 rcases h with⟨_,h⟩|⟨_,rfl⟩
 ·exact h.nil_iff
 ·exact Iff.rfl
def boxesL(bx:Bx)(μ:Nat→Nat)(cb:Bx):Bx→Prop
 |[]=>True
 |(i,ps)::l=>(∃ps',aB bx (μ i)=some ps'∧BoxRel μ cb i ps' ps)∧boxesL bx μ cb l
def outsL(μ:Nat→Nat)(cb:Bx):Bx→Bx→Prop
 |[],[]=>True
 |(i,ps)::l,(j,qs)::m=>(j=μ i∧BoxRel μ cb i qs ps)∧outsL μ cb l m
 |_,_=>False
theorem rJ{bx:Bx}{μ:Nat→Nat}{cb:Bx}:∀{l:Bx},boxesL bx μ cb l→∀{i ps},aB l i=some ps→∃ps',aB bx (μ i)=some ps'∧BoxRel μ cb i ps' ps
 |[],_,_,_,h=>by cases h
 |(k,x)::l,⟨h1,h3⟩,t,sd,h=>by
  rw[aC] at h;split at h
  ·rename_i e;subst e;cases h;exact h1
  ·exact rJ h3 h
theorem aZD{μ:Nat→Nat}{cb:Bx}:∀{l m:Bx},outsL μ cb l m→∀{j qs},aB m j=some qs→∃i ps,μ i=j∧aB l i=some ps∧BoxRel μ cb i qs ps
 |[],[],_,_,_,h=>by cases h
 |(i,ps)::l,(j,qs)::m,⟨⟨h1,h2⟩,h3⟩,k,rs,h=>by
  rw[aC] at h;split at h
  ·rename_i e;subst e;cases h;exact⟨i,ps,h1.symm,by rw[aC,if_pos rfl],h2⟩
  ·rename_i e
   obtain⟨i',ps',g1,g2,g3⟩:=aZD h3 h;exact⟨i',ps',g1,by rw[aC,if_neg (by rintro rfl;exact e (h1.trans g1))];exact g2,g3⟩
 |[],_::_,h,_,_,_=>h.elim
 |_::_,[],h,_,_,_=>h.elim
theorem yF{μ:Nat→Nat}{cb:Bx}:∀{l m:Bx},outsL μ cb l m→m.map (·.1)=l.map (fun x=>μ x.1)
 |[],[],_=>rfl
 |(i,ps)::l,(j,qs)::m,⟨⟨h1,_⟩,h3⟩=>by rw[List.map_cons,List.map_cons,yF h3,h1]
 |[],_::_,h=>h.elim
 |_::_,[],h=>h.elim
def dZ4(μ:Nat→Nat)(ks ks':List Nat):Bool:=eqL ks ks'&&ks.all (fun k=>Nat.ble 1000 k&&(Nat.blt (μ k) 500||Nat.ble 1000 (μ k))&&(lk k==lk (μ k)))&&yK (ks.map μ)
section
variable{P:Program}{En:Ev}
theorem pZE{w0:World}{h0:GH}{c:Cx}{h:GH}{β:Nat→Nat}{bx:Bx}{w:World}(hi:Inv En w0 h0 c h β bx w){f:FuncId}{az:List SD}{cb cb' wb:Bx}{r:Pd}{μ:Nat→Nat}{vs:List Value}(hf:FnG P En f az cb (.one r) cb')(ha:AllS h (fun i=>β (μ i)) cb az vs)(hl:boxesL bx μ cb cb)(ho:outsL μ cb cb' wb)(hk:dZ4 μ (cb.map (·.1)) (cb'.map (·.1))=true):
  Calls P f vs.toArray w (fun e w'=>∃v h',e= .returned v∧Inv En w0 h0 c h' β (wb++bx) w'∧Le h h'∧r.p h' v):=by
 unfold dZ4 at hk;rw[Bool.and_eq_true,Bool.and_eq_true] at hk;obtain⟨⟨k1,k2⟩,k3⟩:=hk;have k1:=cZr k1;have key':∀i,aB cb i≠none→(1000≤i∧(μ i<500∨1000≤μ i))∧lk i=lk (μ i):=fun i hi=>by
  have:=List.all_eq_true.1 k2 i (dA hi);rw[Bool.and_eq_true,Bool.and_eq_true,Bool.or_eq_true] at this;obtain⟨⟨t1,t2⟩,t3⟩:=this;exact⟨⟨Nat.le_of_ble_eq_true t1,t2.imp (fun h=>Nat.le_of_ble_eq_true h) (fun h=>Nat.le_of_ble_eq_true h)⟩,by simpa using t3⟩
 have key:∀i,aB cb i≠none→1000≤i∧(μ i<500∨1000≤μ i):=fun i hi=>(key' i hi).1;have ngr:∀i,aB cb i≠none→¬grows i∧¬grows (μ i):=fun i hi=>by have:=key i hi;unfold grows;omega
 have minj:∀i j,aB cb i≠none→aB cb j≠none→μ i=μ j→i=j:=fun i j h1 h2=>oA k3 i (dA h1) j (dA h2);have hS:∀k,En.S k→k<w0.heap.size:=fun k hk=>En.lt _ hi.env k hk;have get:∀i ps,aB cb i=some ps→ps≠[]→∃ps',aB bx (μ i)=some ps'∧ps'≠[]∧BoxRel μ cb i ps' ps:=fun i ps hp hps=>by
  obtain⟨ps',h1,h2⟩:=rJ hl hp;exact⟨ps',h1,fun e=>hps (h2.nil_iff.1 e),h2⟩
 have blk:∀i ps,aB cb i=some ps→ps≠[]→(w0.heap.size≤β (μ i)∨c.M (β (μ i))):=fun i ps hp hps=>by
  obtain⟨ps',h1,h2,_⟩:=get i ps hp hps;obtain⟨q1,_⟩:=hi.box (μ i) ps' h1 h2;rcases Nat.lt_or_ge (μ i) 1000 with hlt|hge
  ·exact .inl (q1.1 hlt)
  ·exact .inr ⟨μ i,q1.2 hge,hi.pin _ hge⟩
 refine Calls.mono (hf h _ w vs hi.envNow hi.holds ⟨fun i ps hp hps=>?_,fun i j ps qs hp hps hq hqs e=>?_⟩ (fun i ps hp hps=>⟨(key i (by rw[hp];simp)).1,fun hk=>?_⟩) ha) ?_
 ·obtain⟨ps',a1,a2,a3⟩:=get i ps hp hps
  obtain⟨_,q2,us,rs,T',q3,q4,_,_⟩:=hi.box (μ i) ps' a1 a2;have hli:=(key' i (by rw[hp];simp)).2
  rcases a3 with⟨b1,b2⟩|⟨b1,rfl⟩
  ·obtain⟨vs2,d1,d2,d3⟩:=CsMv.inn (β:=β) ngr b2 q4
   refine⟨q2,vs2,rs,T',?_,d2,fun _=>d3⟩;have e1:tI (μ i) β us=us.map (tr β):=by unfold tI;rw[←hli,b1];rfl
   have e2:tI i (fun i=>β (μ i)) vs2=vs2.map (tr fun i=>β (μ i)):=by unfold tI;rw[b1];rfl
   rw[e2,←d1,←e1];exact q3
  ·rw[dW (by rw[←hli];exact b1)] at q3
   exact⟨q2,us,rs,T',by rw[dW b1];exact q3,q4,cZ b1 _ _ _⟩
 ·obtain⟨ps',a1,a2,_⟩:=get i ps hp hps
  obtain⟨qs',b1,b2,_⟩:=get j qs hq hqs;exact minj i j (by rw[hp];simp) (by rw[hq];simp) (hi.inj _ _ _ _ a1 a2 b1 b2 e)
 ·rcases blk i ps hp hps with h|h
  ·have:=hS _ hk;omega
  ·exact hi.dis _ h hk
 ·rintro e w' ⟨v,h',β',rfl,g1,g2,g3,g4,g5,g6,g8,g7,_⟩
  have wkeys:=yF ho;have src:∀j qs,aB (wb++bx) j=some qs→qs≠[]→(∃i ps qs1,μ i=j∧aB cb' i=some ps∧ps≠[]∧BoxRel μ cb i qs ps∧aB cb i≠none∧qs1≠[]∧aB bx j=some qs1∧β' i=β j)∨(aB bx j=some qs∧∀i,aB cb i≠none→μ i≠j):=fun j qs hj hq=>by
   rw[cQ] at hj;cases hw:aB wb j with
   |some qs'=>
    rw[hw] at hj;simp only[Option.some_or,Option.some.injEq] at hj;subst hj;obtain⟨i,ps,rfl,h2,h3⟩:=aZD ho hw;have hps:ps≠[]:=fun e=>hq (h3.nil_iff.2 e);have hcn:aB cb i≠none:=iV (by rw[k1];exact dA (by rw[h2];simp))
    have hge:=(key i hcn).1;obtain⟨qs0,e1,e2⟩:=(g8 i _ h2 hps).2 hge;obtain⟨ps',a1,a2,_⟩:=get i qs0 e1 e2;exact .inl ⟨i,ps,ps',rfl,h2,hps,h3,hcn,a2,a1,g6 i hge⟩
   |none=>
    rw[hw] at hj;refine .inr ⟨by simpa using hj,fun i hi' e=>?_⟩
    subst e;have:i∈cb'.map (·.1):=by rw[←k1];exact dA hi'
    obtain⟨y,hy,rfl⟩:=List.mem_map.1 this;exact iV (bx:=wb) (by rw[wkeys];exact List.mem_map.2 ⟨y,hy,rfl⟩) hw
  have live:∀r,aB bx r≠none→aB (wb++bx) r≠none:=fun r hr=>by rw[cQ];cases aB wb r<;>simp;exact hr
  have liveM:∀i,aB cb i≠none→aB (wb++bx) (μ i)≠none:=fun i hi'=>by
   obtain⟨ps,hp⟩:∃ps,aB cb i=some ps:=Option.ne_none_iff_exists'.1 hi';obtain⟨ps',a1,_⟩:=rJ hl hp;exact live _ (by rw[a1];simp)
  have hblk:∀k,k<w.heap.size→(∀i ps,aB cb i=some ps→ps≠[]→k≠β (μ i))→w'.heap[k]? =w.heap[k]? :=fun k hk hne=>g4.block k hk (by rintro⟨i,⟨ps,h1,h2⟩,h3⟩;exact hne i ps h1 h2 h3)
  refine⟨v,h',rfl,⟨hi.env,g2,hi.le0.trans g1,fun b' o u e e0=>?_,⟨g4.os.trans hi.below.os,g4.tape.trans hi.below.tape,g4.output.trans hi.below.output,Nat.le_trans hi.below.size g4.size,fun k hk hM=>?_⟩,hi.dis,hi.pin,fun j qs hj hq=>?_,fun i j ps qs hp hps hq hqs=>?_⟩,g1,g7⟩
  ·cases he:h b' o with
   |none=>exact Nat.le_trans hi.below.size (g3 b' o u e he)
   |some u'=>exact hi.fresh b' o u' he e0
  ·rw[hblk k (Nat.lt_of_lt_of_le hk hi.below.size) ?_]
   ·exact hi.below.block k hk hM
   ·rintro i ps hp hps rfl
    rcases blk i ps hp hps with h|h
    ·omega
    ·exact hM h
  ·rcases src j qs hj hq with⟨i,ps,qs1,rfl,e2,e3,e4,e5,e6,e7,e8⟩|⟨e1,e2⟩
   ·obtain⟨q1,_⟩:=hi.box (μ i) qs1 e7 e6
    obtain⟨r1,us,rs,T',r2,r3,_⟩:=g5.box i ps e2 e3;have hli:=(key' i e5).2;rw[e8] at r1 r2;have hng:=(ngr i e5).2;rcases e4 with⟨b1,b2⟩|⟨b1,rfl⟩
    ·obtain⟨vs2,d1,d2,d3⟩:=CsMv.ous (bx:=wb++bx) (β:=β) (β':=β') (fun i' hi'=>⟨ngr i' hi',g6 i' (key i' hi').1,liveM i' hi'⟩) b2 r3
     refine⟨q1,r1,vs2,rs,T',?_,d2,fun hg=>absurd hg hng,fun _=>d3⟩;have e1:tI i β' us=us.map (tr β'):=by unfold tI;rw[b1];rfl
     have e2:tI (μ i) β vs2=vs2.map (tr β):=by unfold tI;rw[←hli,b1];rfl
     rw[e2,d1,←e1];exact r2
    ·rw[dW b1] at r2
     have b1':lk (μ i)=false:=by rw[←hli];exact b1
     exact⟨q1,r1,us,rs,T',by rw[dW b1'];exact r2,r3,fun hg=>absurd hg hng,cZ b1' _ _ _⟩
   ·obtain⟨r0,r1,us,rs,T',r2,r3,r4,r5⟩:=hi.box j qs e1 hq
    refine⟨r0,fun o=>?_,us,rs,T',?_,r3.mono g1,r4,jJ r5 live⟩
    ·cases he:h' (β j) o with
     |none=>rfl
     |some u=>
      have:=g3 _ _ _ he (r1 o);have:=dB r2;omega
    ·rw[hblk _ (dB r2) ?_]
     ·exact r2
     ·intro i ps hp hps hh
      obtain⟨ps',a1,a2,_⟩:=get i ps hp hps;exact e2 i (by rw[hp];simp) (hi.inj _ _ _ _ a1 a2 e1 hq hh.symm)
  ·have old:∀j qs,aB (wb++bx) j=some qs→qs≠[]→∃qs',aB bx j=some qs'∧qs'≠[]:=fun j qs hj hq=>by
    rcases src j qs hj hq with⟨i,_,qs1,_,_,_,_,_,e6,e7,_⟩|⟨e1,_⟩
    ·exact⟨qs1,e7,e6⟩
    ·exact⟨qs,e1,hq⟩
   obtain⟨ps',a1,a2⟩:=old i ps hp hps;obtain⟨qs',b1,b2⟩:=old j qs hq hqs;exact hi.inj i j _ _ a1 a2 b1 b2
section
variable{n:Nat}{sl:Sl}{bx:Bx}{dst:Option Tmp}{ty:TypeId}{pos:String}{after:Array Edge}{guard:Option (Nat×Bool)}
theorem iZ1{f:FuncId}{rb:List Nat}{xs:List Operand}{ats:Array TypeId}{az:List SD}{cb cb':Bx}{r:Pd}(μ:Nat→Nat)(wb:Bx)[hb:CBody P f](hf:FnG P En f az cb (.one r) cb')(ha:zZ sl cb μ xs az)(hl:boxesL bx μ cb cb)(ho:outsL μ cb cb' wb)(hk:dZ4 μ (cb.map (·.1)) (cb'.map (·.1))=true)(hrb:cb.map (fun x=>μ x.1)=rb):
  RT P En n ⟨dst,.call ⟨.value (.func f),xs.toArray,ats⟩,ty,pos,after,guard⟩ sl bx ⟨.one r,rb,wb⟩:=by
 subst hrb;intro sl' bx' h1 h2 _ w0 h0 c h β a w Q hi hs;have hl':boxesL bx' μ cb cb:=by
  have:∀l:Bx,(∀x∈l,x∈cb)→boxesL bx μ cb l→boxesL bx' μ cb l:=by
   intro l;induction l with
   |nil=>intro _ _;trivial
   |cons x l ih=>
    intro hm hx;exact⟨by rw[h2 _ (List.mem_map.2 ⟨x,hm x (by simp),rfl⟩)];exact hx.1,ih (fun y hy=>hm y (by simp[hy])) hx.2⟩
  exact this cb (fun _ h=>h) hl
 unfold Oper.wp;rw[execOp_call_go,show(#[]++xs.toArray.map a.eval++ #[])=(xs.map a.eval).toArray by simp,gL hb.ok]
 refine Calls.mono (pZE hi hf (tF hs (fun x hx=>h1 x (by simp[Op.operands,Call.operands,hx])) ha) hl' ho hk) ?_
 rintro e w' ⟨v,h',rfl,q1,q2,q3⟩;exact⟨v,h',β,rfl,q1,q2,fun _ _=>rfl,q3,trivial⟩
end
end
end
section
open Go.RowKit Limb Det Num
def wG(p:Nat):Nat→Nat→Nat
 |0,_=>0
 |f+1,n=>if n≠0∧n%p=0 then wG p f (n/p)+1 else 0
def fH(p n:Nat):Nat:=wG p n n
theorem bZa{p:Nat}(hp:2≤p):∀{f g n:Nat},n≤f→n≤g→wG p f n=wG p g n
 |0,0,_,_,_=>rfl
 |0,g+1,n,h,_=>by
  have:n=0:=oM;subst this;rw[wG,wG,if_neg (by simp)]
 |f+1,0,n,_,h=>by
  have:n=0:=oM;subst this;rw[wG,wG,if_neg (by simp)]
 |f+1,g+1,n,h1,h2=>by
  rw[wG,wG]
  by_cases c:n≠0∧n%p=0
  ·rw[if_pos c,if_pos c]
   have:n/p<n:=Nat.div_lt_self oM hp;rw[bZa hp (f:=f) (g:=g) oM oM]
  ·rw[if_neg c,if_neg c]
theorem uL{p n:Nat}(hp:2≤p)(h0:n≠0)(h:n%p=0):fH p n=fH p (n/p)+1:=by
 obtain⟨m,rfl⟩:∃m,n=m+1:=⟨n-1,oM⟩;have:(m+1)/p<m+1:=Nat.div_lt_self oM hp;unfold fH;rw[wG,if_pos ⟨h0,h⟩,bZa hp (f:=m) (g:=(m+1)/p) oM (Nat.le_refl _)]
theorem qD{p n:Nat}(h:¬(n≠0∧n%p=0)):fH p n=0:=by
 unfold fH;cases n with
 |zero=>rfl
 |succ n=>rw[wG,if_neg h]
theorem lZ{p:Nat}(hp:2≤p)(n:Nat):p^fH p n∣n:=by
 induction n using Nat.strongRecOn with
 |_ n ih=>
  by_cases c:n≠0∧n%p=0
  ·rw[uL hp c.1 c.2,Nat.pow_succ]
   obtain⟨x,hx⟩:=ih (n/p) (Nat.div_lt_self oM hp);have h1:n=p*(n/p):=by have:=Nat.div_add_mod n p;omega
   refine⟨x,?_⟩;rw[h1];generalize hq:n/p=q at*;rw[show p*q/p=q from Nat.mul_div_cancel_left _ oM] at*
   rw[Nat.mul_assoc,Nat.mul_left_comm,←hx]
  ·rw[qD c];exact⟨n,by simp⟩
theorem gZx{p:Nat}(hp:2≤p){n k:Nat}(h0:n≠0)(h:n<p^k):fH p n<k:=by
 have h1:=Nat.le_of_dvd oM (lZ hp n);have h2:p^fH p n<p^k:=Nat.lt_of_le_of_lt h1 h;exact(Nat.pow_lt_pow_iff_right oM).1 h2
theorem uM{p:Nat}(hp:2≤p)(n:Nat)(h0:n≠0):n/p^fH p n%p≠0:=by
 induction n using Nat.strongRecOn with
 |_ n ih=>
  by_cases c:n≠0∧n%p=0
  ·rw[uL hp c.1 c.2,Nat.pow_succ,Nat.mul_comm,←Nat.div_div_eq_div_mul]
   refine ih (n/p) (Nat.div_lt_self oM hp) ?_;have:=Nat.div_add_mod n p;intro e;rw[e] at this;simp at this;omega
  ·rw[qD c,Nat.pow_zero,Nat.div_one]
   intro e;exact c ⟨h0,e⟩
def bZA:Nat→Nat→Nat→Int→Int→Int
 |0,_,_,u,_=>u
 |f+1,x,y,u,v=>if y=0 then u else bZA f y (x%y) v (u-((x/y:Nat):Int)*v)
def rcp(a m:Nat):Int:=if Nat.gcd a m=1 then bZA (m+1) a m 1 0%(m:Int) else 0
def RcB(m:Nat)(x y:Nat)(u v:Int):Prop:=(u.natAbs≤m∧v.natAbs≤m)∧v.natAbs*x+u.natAbs*y≤m
theorem RcB.next{m x y:Nat}{u v:Int}(h:RcB m x y u v)(hy:1≤y):(((x/y:Nat):Int)*v).natAbs≤m∧RcB m y (x%y) v (u-((x/y:Nat):Int)*v):=by
 obtain⟨⟨h1,h3⟩,h2⟩:=h;have e1:(((x/y:Nat):Int)*v).natAbs=x/y*v.natAbs:=by rw[Int.natAbs_mul,Int.natAbs_natCast]
 have e2:x/y*v.natAbs≤v.natAbs*x:=by rw[Nat.mul_comm];exact Nat.mul_le_mul_left _ (Nat.div_le_self x y)
 have e4:(u-((x/y:Nat):Int)*v).natAbs≤u.natAbs+x/y*v.natAbs:=by rw[←e1];omega
 have e5:(u-((x/y:Nat):Int)*v).natAbs*y≤(u.natAbs+x/y*v.natAbs)*y:=Nat.mul_le_mul_right _ e4;have e6:=Nat.div_add_mod x y;have e7:(u.natAbs+x/y*v.natAbs)*y+v.natAbs*(x%y)=u.natAbs*y+v.natAbs*(y*(x/y)+x%y):=by grind
 rw[e6] at e7;have e8:(u-((x/y:Nat):Int)*v).natAbs≤(u-((x/y:Nat):Int)*v).natAbs*y:=Nat.le_mul_of_pos_right _ hy;exact⟨oM,⟨oM,oM⟩,oM⟩
theorem aZ7{m a:Nat}:∀{f x y:Nat} {u v s t:Int},y<f→Nat.gcd x y=1→u*a+s*m=x→v*a+t*m=y→∃s',bZA f x y u v*a+s'*m=1
 |0,x,y,u,v,s,t,h,_,_,_=>oM
 |f+1,x,y,u,v,s,t,h,hg,h1,h2=>by
  rw[bZA]
  by_cases c:y=0
  ·subst c
   rw[if_pos rfl];rw[Nat.gcd_zero_right] at hg;exact⟨s,by rw[h1,hg];rfl⟩
  ·rw[if_neg c]
   have hlt:=Nat.mod_lt x (Nat.pos_of_ne_zero c);refine aZ7 (s:=t) (t:=s-((x/y:Nat):Int)*t) oM (by rw[Nat.gcd_comm,←Nat.gcd_rec];rw[Nat.gcd_comm];exact hg) h2 ?_
   have e:((x:Nat):Int)=(y:Int)*((x/y:Nat):Int)+((x%y:Nat):Int):=by
    rw[←Int.natCast_mul,←Int.natCast_add,Nat.div_add_mod]
   have e2:(u-((x/y:Nat):Int)*v)*a+(s-((x/y:Nat):Int)*t)*m=(u*a+s*m)-((x/y:Nat):Int)*(v*a+t*m):=by grind
   rw[e2,h1,h2,e];grind
theorem dZf{a m:Nat}(hg:Nat.gcd a m=1):∃k:Int,rcp a m*a=1+k*m:=by
 obtain⟨s,hs⟩:=aZ7 (m:=m) (a:=a) (f:=m+1) (x:=a) (y:=m) (u:=1) (v:=0) (s:=0) (t:=1) oM hg (by grind) (by grind)
 unfold rcp;rw[if_pos hg];generalize bZA (m+1) a m 1 0=z at*;have e:=Int.emod_add_mul_ediv z (m:Int);refine⟨-s-(z/(m:Int))*a,?_⟩;have e3:z%(m:Int)=z-(m:Int)*(z/(m:Int)):=oM;rw[e3];grind
theorem iZE{a m:Nat}(hm:1≤m):0≤rcp a m∧rcp a m<m:=by
 unfold rcp;split
 ·exact⟨Int.emod_nonneg _ oM,Int.emod_lt_of_pos _ oM⟩
 ·omega
theorem cZK(a b:Nat):(a:Int).tmod (b:Int)=((a%b:Nat):Int):=(Int.ofNat_tmod a b).symm
theorem oR(a b:Nat):(a:Int).tdiv (b:Int)=((a/b:Nat):Int):=(Int.ofNat_tdiv a b).symm
instance kb80:CBody PZ 80:=cB Tryz.func80
instance kb43:CBody PZ 43:=cB Tryz.func43
instance kb82:CBody PZ 82:=cB Tryz.func82
instance kb176:CBody PZ 176:=cB Tryz.func176
instance kb141:CBody PZ 141:=cB Tryz.func141
instance kb7:CBody PZ 7:=cB Tryz.func7
instance kb81:CBody PZ 81:=cB Tryz.func81
section
variable(En:Ev)
theorem uI(n p:Nat)(hp:2≤p)(hp2:p≤4294967296)(hn:n≤4294967296):Fn PZ En 43 [i6 n,i6 p] (i6 ((fH p n:Nat):Int)):=by
 refine aA Tryz.func43 rfl Tryz.ntmps43 rfl ?_;intro w0 h0;refine vS<|vZ jj<|vS<|vZ jj<|js<|jb ?_;refine WpD.loop (α:={x:Nat×Nat//x.1≤n∧fH p x.1+x.2=fH p n∧x.1+x.2≤n}) (fun x=>⟨[(0,.one (i6 x.1.1)),(1,.one (i6 p)),(5,.one (i6 x.1.2))],[]⟩) (fun x=>x.1.1) ⟨(n,0),Nat.le_refl n,rfl,Nat.le_refl n⟩ ?_ ?_
 ·dsimp only
  exact Sub.mk sJ sJ
 rintro⟨⟨x,e⟩,hx,he,hs⟩;dsimp only at hx he hs ⊢
 by_cases h0:x=0
 ·have he2:e=fH p n:=by rw[←he,qD oM];omega
  subst he2;refine js<|vS<|jm jj<|jS (bNf jj jj oM)<|jm jj<|jk<|jk<|jk<|jk<|vQ jj<|jn<|jf jj<|je<|vS<|jm jj<|vZ jj<|ji ?_;exact rtT rfl jj
 ·have e1:=cZK x p
  by_cases hr:x%p=0
  ·have hlt:x/p<x:=Nat.div_lt_self oM hp
   have e2:IntKind.i64.wrap ((x:Int).tdiv (p:Int))=((x/p:Nat):Int):=by rw[oR];generalize x/p=q at*;exact w64 oM oM
   have e3:=wS e oM;have he3:=uL hp h0 hr;refine js<|vS<|jm jj<|jS (bNt jj jj oM)<|jm jj<|jgm jj<|jgm jj<|jg (bRe jj jj e1)<|jg (bEt jj jj oM)<|vq jj<|jn<|jt jj<|jp<|jb<|vS<|vV jj jj<|jS (bQu jj jj e2)<|vZ jj<|jr<|jm jj<|vAd jj e3<|vZ jj ?_;refine⟨⟨(x/p,e+1),oD,oD,oD⟩,?_,oD⟩;dsimp only;exact Sub.mk sJ sJ
  ·have he2:e=fH p n:=by rw[←he,qD oM];omega
   subst he2;refine js<|vS<|jm jj<|jS (bNt jj jj oM)<|jm jj<|jgm jj<|jgm jj<|jg (bRe jj jj e1)<|jg (bEf jj jj oM)<|vq jj<|jn<|jf jj<|je<|vS<|jm jj<|vZ jj<|ji ?_;exact rtT rfl jj
theorem fZh(p e:Nat)(hp:1≤p)(h:p^e≤4294967296)(he:e≤4294967296):Fn PZ En 82 [i6 p,i6 e] (i6 ((p^e:Nat):Int)):=by
 refine aA Tryz.func82 rfl Tryz.ntmps82 rfl ?_;intro w0 h0;refine vS<|vZ jj<|vS<|vZ jj<|js<|vS<|vZ jj<|jb ?_;refine WpD.loop (α:={i:Nat//i≤e}) (fun i=>⟨[(0,.one (i6 p)),(1,.one (i6 e)),(5,.one (i6 ((p^i.1:Nat):Int))),(6,.one (i6 i.1))],[]⟩) (fun i=>e-i.1) ⟨0,oM⟩ ?_ ?_
 ·dsimp only
  exact Sub.mk sJ sJ
 rintro⟨i,hi⟩;dsimp only
 by_cases hie:i<e
 ·have e1:IntKind.i64.wrap (((p^i:Nat):Int)*(p:Int))=((p^(i+1):Nat):Int):=by
   rw[←Int.natCast_mul,←Nat.pow_succ];have:p^i.succ≤p^e:=Nat.pow_le_pow_right hp oM;exact w64 oM oM
  have e2:=wS i oM;refine js<|vS<|vV jj jj<|vLt jj<|jn<|jt jj<|jp<|js<|jb<|jr<|vV jj jj<|vMu jj e1<|vZ jj<|jr<|jm jj<|vAd jj e2<|vZ jj ?_;refine⟨⟨i+1,oM⟩,?_,oD⟩;dsimp only;exact Sub.mk sJ sJ
 ·have e0:i=e:=oM
  subst e0;refine js<|vS<|vV jj jj<|vLf jj<|jn<|jf jj<|je<|vS<|jm jj<|vZ jj<|ji ?_;exact rtT rfl jj
theorem hgcd(a b:Nat):Fn PZ En 176 [i6 a,i6 b] (i6 ((Nat.gcd a b:Nat):Int)):=by
 refine aA Tryz.func176 rfl Tryz.ntmps176 rfl ?_;intro w0 h0;refine vS<|vZ jj<|js<|jb ?_;refine WpD.loop (α:={x:Nat×Nat//Nat.gcd x.1 x.2=Nat.gcd a b}) (fun x=>⟨[(0,.one (i6 x.1.1)),(1,.one (i6 x.1.2))],[]⟩) (fun x=>x.1.2) ⟨(a,b),rfl⟩ ?_ ?_
 ·dsimp only
  exact Sub.mk sJ sJ
 rintro⟨⟨x,y⟩,hg⟩;dsimp only at hg ⊢
 by_cases h0:y=0
 ·subst h0
  rw[Nat.gcd_zero_right] at hg;subst hg;refine js<|vS<|jm jj<|vNf jj<|jn<|jf jj<|je<|vS<|jm jj<|vZ jj<|ji ?_;exact rtT rfl jj
 ·have hy:(y:Int)≠0:=oM
  have e1:=cZK x y;have hlt:=Nat.mod_lt x (Nat.pos_of_ne_zero h0);refine js<|vS<|jm jj<|vNt jj<|jn<|jt jj<|jp<|jb<|jr<|vV jj jj<|jm jj<|jS (bRe jj jj e1)<|ja jj<|vZ jj ?_;refine⟨⟨(y,x%y),?_⟩,?_,oD⟩
  ·dsimp only
   rw[←hg,Nat.gcd_comm y,←Nat.gcd_rec,Nat.gcd_comm]
  dsimp only;exact Sub.mk sJ sJ
theorem vG(a m:Nat)(hm:1≤m)(hm2:m≤4294967296)(ha:a≤4294967296):Fn PZ En 141 [i6 a,i6 m] (dK [i6 (rcp a m),ex (.bool (decide (Nat.gcd a m=1)))]):=by
 have C1:=hgcd En a m;unfold rcp
 by_cases hg:Nat.gcd a m=1
 ·rw[if_pos hg,decide_eq_true hg]
  rw[hg] at C1;refine aA Tryz.func141 rfl Tryz.ntmps141 rfl ?_;intro w0 h0;refine vS<|ja jj<|vZ jj<|js<|vS<|vV jj jj<|vC C1 tB<|vNf jj<|jn<|jf jj<|jp<|vS<|vV jj jj<|ja jj<|ja jj<|ja jj<|vZ jj<|js<|jb ?_;refine WpD.loop (α:={x:(Nat×Nat)×Nat×Int×Int//RcB m x.1.1 x.1.2 x.2.2.1 x.2.2.2∧Nat.gcd x.1.1 x.1.2=1∧(x.1.1≤4294967296∧x.1.2≤4294967296)∧x.1.2<x.2.1∧bZA x.2.1 x.1.1 x.1.2 x.2.2.1 x.2.2.2=bZA (m+1) a m 1 0}) (fun x=>⟨[(1,.one (i6 m)),(6,.one (i6 x.1.1.1)),(7,.one (i6 x.1.1.2)),(8,.one (i6 x.1.2.2.1)),(9,.one (i6 x.1.2.2.2))],[]⟩) (fun x=>x.1.1.2) ⟨((a,m),m+1,1,0),⟨⟨by show(1:Int).natAbs≤m;exact hm,Nat.zero_le _⟩,by show(0:Int).natAbs*a+(1:Int).natAbs*m≤m;simp⟩,hg,⟨ha,hm2⟩,oD,rfl⟩ ?_ ?_
  ·dsimp only
   exact Sub.mk sJ sJ
  rintro⟨⟨⟨x,y⟩,f,u,v⟩,hB,hgx,⟨hx,hy⟩,hf,hE⟩;dsimp only at hB hgx hx hy hf hE ⊢;obtain⟨f,rfl⟩:∃f',f=f'+1:=⟨f-1,oM⟩
  by_cases h0:y=0
  ·rw[bZA,if_pos h0] at hE
   subst h0;have C2:=aZo En u (m:Int) oM oM;rw[←hE];refine js<|vS<|jm jj<|vNf jj<|jn<|jf jj<|je<|vS<|vV jj jj<|vC C2 tB<|ja jj<|vZ jj<|ji ?_;exact lB rfl (.tmp rfl) (.tmp rfl) (PLe.refl _)
  ·rw[bZA,if_neg h0] at hE
   have hy0:(y:Int)≠0:=oM;have hdl:x/y≤x:=Nat.div_le_self x y;have e6:=Nat.div_add_mod x y;have hlt:=Nat.mod_lt x (Nat.pos_of_ne_zero h0);obtain⟨k1,k2⟩:=hB.next (Nat.pos_of_ne_zero h0);have e6':((x/y:Nat):Int)*(y:Int)=(x:Int)-((x%y:Nat):Int):=by
    rw[←Int.natCast_mul,Nat.mul_comm (x/y) y];omega
   have c1:IntKind.i64.wrap ((x:Int).tdiv (y:Int))=((x/y:Nat):Int):=by rw[oR];generalize x/y=q at*;exact w64 oM oM
   have c2:IntKind.i64.wrap (((x/y:Nat):Int)*(y:Int))=(x:Int)-((x%y:Nat):Int):=by rw[e6',w64 oM oM]
   have c3:IntKind.i64.wrap ((x:Int)-((x:Int)-((x%y:Nat):Int)))=((x%y:Nat):Int):=by rw[w64 oM oM];omega
   have c4:IntKind.i64.wrap (((x/y:Nat):Int)*v)=((x/y:Nat):Int)*v:=w64 oM oM;have hu:=hB.1.1;have c5:IntKind.i64.wrap (u-((x/y:Nat):Int)*v)=u-((x/y:Nat):Int)*v:=w64 oM oM;refine js<|vS<|jm jj<|vNt jj<|jn<|jt jj<|jp<|jb<|vS<|vV jj jj<|jS (bQu jj jj c1)<|vZ jj<|vS<|vV jj jj<|vV jj jj<|vMu jj c2<|vSu jj c3<|ja jj<|vZ jj<|jr<|vV jj jj<|vV jj jj<|vMu jj c4<|vSu jj c5<|ja jj<|vZ jj ?_;refine⟨⟨((y,x%y),f,v,u-((x/y:Nat):Int)*v),k2,?_,⟨hy,oD⟩,oD,hE⟩,?_,oD⟩
   ·dsimp only
    rw[←hgx,Nat.gcd_comm y,←Nat.gcd_rec,Nat.gcd_comm]
   dsimp only;exact Sub.mk sJ sJ
 ·rw[if_neg hg,decide_eq_false hg]
  refine aA Tryz.func141 rfl Tryz.ntmps141 rfl ?_;intro w0 h0;refine vS<|ja jj<|vZ jj<|js<|vS<|vV jj jj<|vC C1 tB<|jS (bNt jj jj oM)<|jn<|jt jj<|vS<|ja jj<|vZ jj<|ji ?_;exact lB rfl (.tmp rfl) (.tmp rfl) (PLe.refl _)
theorem jleg(a:Int)(p:Nat)(h1:1≤p)(h2:p≤2147483648):Fn PZ En 80 [i6 a,i6 p] (i6 (fG a p)):=by
 intro h w vs _ hh hv;obtain⟨v,u,rfl,e1,e2⟩:=hv.two;have e1:v= .int .i64 a:=e1;have e2:u= .int .i64 (p:Int):=e2;subst e1 e2;refine(bZY a p w h1 h2).mono ?_;rintro e w' ⟨rfl,rfl⟩;exact jR hh (Below.refl _ _) rfl
theorem mZa(A:Nat→Nat→Int)(n K:Nat)(hn:1≤n)(hn8:n≤8)(hK:K≤1000000)(hA:ZL A n n K)(hI:∀i j,i<n→j<n→I64 (A i j))(hd:I64 (det n A)):Fn PZ En 7 [imt A n n] (i6 (det n A)):=by
 have C1:=mof En A n n hn hn8 hn hn8 hI;have C2:=jZd En A n K hn hn8 hK hA;have C3:=jZa En (det n A) hd;refine aA Tryz.func7 rfl Tryz.ntmps7 rfl ?_;intro w0 h0;refine vS<|vZ jj<|vS<|jm jj<|vC C1 tA<|vC C2 tA<|vC C3 tA<|jm jj<|vE jj<|vE jj<|ja jj<|vZ jj<|vS<|jm jj<|vZ jj<|ji ?_;exact rtT rfl jj
def dgs(d:Int)(p:Nat):Nat:=fH p d.toNat+(if p=2 then 3 else 1)
theorem mZn{p:Nat}(hp:2≤p)(n:Nat):fH p n≤n:=by
 by_cases h:n=0
 ·subst h;exact Nat.le_refl 0
 ·have h1:=Nat.le_of_dvd oM (lZ hp n)
  have h2:fH p n<p^fH p n:=Nat.lt_pow_self hp;omega
theorem lZZ(A:Nat→Nat→Int)(n K p:Nat)(hn:1≤n)(hn8:n≤8)(hK:K≤1000000)(hA:ZL A n n K)(hI:∀i j,i<n→j<n→I64 (A i j))(hd0:0≤det n A)(hd:det n A≤4294967296)(hp:2≤p)(hp2:p≤4294967296):Fn PZ En 81 [imt A n n,i6 p] (i6 ((dgs (det n A) p:Nat):Int)):=by
 have C1:=mZa En A n K hn hn8 hK hA hI ⟨oM,oM⟩;have C2:=uI En (det n A).toNat p hp hp2 oM;have hx:=mZn hp (det n A).toNat;rw[show(((det n A).toNat:Nat):Int)=det n A by omega] at C2
 unfold dgs
 by_cases h2:p=2
 ·subst h2
  rw[if_pos rfl];have e1:IntKind.i64.wrap (((fH 2 (det n A).toNat:Nat):Int)+3)=((fH 2 (det n A).toNat+3:Nat):Int):=by rw[w64 oM oM];rfl
  refine aA Tryz.func81 rfl Tryz.ntmps81 rfl ?_;intro w0 h0;refine vS<|vZ jj<|vS<|jm jj<|vC C1 tA<|jm jj<|vC C2 tB<|vZ jj<|js<|vS<|jm jj<|vEt jj<|jn<|jt jj<|vS<|jm jj<|vAd jj e1<|vZ jj<|ji ?_;exact rtT rfl jj
 ·rw[if_neg h2]
  have e1:IntKind.i64.wrap (((fH p (det n A).toNat:Nat):Int)+1)=((fH p (det n A).toNat+1:Nat):Int):=by rw[w64 oM oM];rfl
  refine aA Tryz.func81 rfl Tryz.ntmps81 rfl ?_;intro w0 h0;refine vS<|vZ jj<|vS<|jm jj<|vC C1 tA<|jm jj<|vC C2 tB<|vZ jj<|js<|vS<|jm jj<|vEf jj<|jn<|jf jj<|jp<|vS<|jm jj<|vAd jj e1<|vZ jj<|ji ?_;exact rtT rfl jj
end
end
section
open Go.RowKit Limb
def idL(d:Nat):Bool:=Nat.ble 700 d&&Nat.blt d 750
theorem sN{d:Nat}(h:idL d=true):(500≤d∧d<750)∧lk d=true:=by
 unfold idL at h;rw[Bool.and_eq_true] at h;have h1:=Nat.le_of_ble_eq_true h.1;have h2:d<750:=Nat.le_of_ble_eq_true h.2;refine⟨oM,?_⟩;unfold lk;rw[h.1,h.2];simp
theorem xJ{i:Nat}(h:lk i=true)(β:Nat→Nat)(vs:List Value):tI i β vs=vs.map (tr β):=by unfold tI;rw[h];rfl
theorem BMv.atL{s t:Bx}{a src:Nat}{ps' ps:List Pd}(hb:lk a=true)(hb':lk src=true)(hgr:grows a→grows src)(hlo:a<1000)(hlo2:src<1000)(hl:aB s src=some ps')(h:PsMv (mvr a src) s t ps' ps):BMv (mvr a src) s t a ps:=by
 refine .inr ⟨ps',by rw[cI];exact hl,by rw[cI];omega,fun hg=>?_,.inr (.inl ⟨hb,by rw[cI];exact hb',h⟩)⟩
 rw[cI,fT];exact⟨hgr hg,rfl⟩
theorem BMv.growL{s t:Bx}{a src b:Nat}{ps' ps:List Pd}(hb:lk b=true)(hab:b≠a)(hab2:b≠a+250)(hab3:b+250≠a)(hl:aB s b=some ps')(h:PsMv (mvr a src) s t ps' ps):BMv (mvr a src) s t b ps:=by
 refine .inr ⟨ps',?_,?_,fun hg=>?_,.inr (.inl ⟨hb,?_,h⟩)⟩<;>rw[cJ hab hab2]
 ·exact hl
 ·exact⟨hg,cJ hab3 oM⟩
 ·exact hb
section
variable{P:Program}{En:Ev}{n:Nat}{sl:Sl}{bx:Bx}{dst:Option Tmp}{ty:TypeId}{pos:String}{after:Array Edge}{guard:Option (Nat×Bool)}
theorem aZz{T E:TypeId}{t:Tmp}{r len cap bytes:Nat}{zs:List Value}(d:Nat)[hT:CElem P T E 1][hz:CRowZ P E 1 zs bytes](hx:osd sl (.tmp t)=some (.own r 0 len cap))(hng:¬grows r)(hd:idL d=true)(hn:aB bx d=none)(hn2:aB bx (d+250)=none):
  RT P En n ⟨dst,.buildSlice T 1 [(0,Operand.tmp t)].toArray,ty,pos,after,guard⟩ sl bx ⟨.app d 1 1,[],[(d,[dC r 0 len cap]),(d+250,[])]⟩:=by
 intro sl' bx' h1 _ h3 w0 h0 c h β a w Q hi hs;obtain⟨⟨hd1,hd2⟩,hdl⟩:=sN hd;have hn':aB bx' d=none:=by rw[h3 d (by simp)];exact hn
 have hn2':aB bx' (d+250)=none:=by rw[h3 (d+250) (by simp)];exact hn2
 obtain⟨⟨cap',hv,hc1,hc2⟩,hlv⟩:=cH hs (x:= .tmp t) (sd:= .own r 0 len cap) (by rw[h1 _ (by simp[Op.operands])];exact hx)
 have hc1':C1 (ex (a.eval (.tmp t))):=⟨fun _ _ e=>by rw[show _=_ from e,hv];rfl⟩
 obtain⟨us,u1,u2,u3⟩:=rG (P:=P) (dst:=dst) (ty:=ty) (pos:=pos) (after:=after) (guard:=guard) (sl:=[(t,.one (ex (a.eval (.tmp t))))]) (xs:=[(0,.tmp t)]) (ps:=[(0,[ex (a.eval (.tmp t))])]) (len:=1) (k:=1) hT hz ⟨rfl,.inl ⟨_,hc1',by show aB _ t=_;rw[aC,if_pos rfl],rfl⟩,trivial⟩ (rs:=[ex (a.eval (.tmp t))]) rfl oM oM (ρ:=a.eval) (h:=h) (β:=β) (bx':=bx') (fun x hx s hxs=>by
  rw[List.mem_singleton.1 hx] at hxs;have e:some (SD.one (ex (a.eval (.tmp t))))=some s:=by rw[←hxs];show _=aB _ t;rw[aC,if_pos rfl]
  cases e
  rw[List.mem_singleton.1 hx];exact⟨rfl,trivial⟩)
 have hus:us=[a.eval (.tmp t)]:=by
  cases us with
  |nil=>exact u1.elim
  |cons u us=>cases us with
   |nil=>rw[show u=_ from u1.1]
   |cons=>exact u1.2.2.elim
 subst hus;unfold Oper.wp;rw[u3 w];have hI:=hi.allocA d hd1 hd2 (rest:=[]) (ps:=[dC r 0 len cap]) (vs:=[.slice (some ⟨r,0,none⟩) len cap']) ⟨⟨cap',rfl,hc1,hc2⟩,rfl,trivial⟩ E (g:=w.heap.size) (w':=w.alloc (.cells [a.eval (.tmp t)].toArray E)) (fun b o v e=>by rw[World.cell?_of_block (w:=w) (a:=⟨b,o,none⟩) (Below.heap_alloc w _ b (hi.holds.lt e))];exact hi.holds b o v e) (hi.below.below ((Below.refl _ _).alloc (Nat.le_refl _) _)) hi.below.size (fun o=>by
  cases hh:h w.heap.size o with
  |none=>rfl
  |some v=>exact absurd (hi.holds.lt hh) (Nat.lt_irrefl _)) (by rw[List.append_nil,xJ hdl,List.map_cons,List.map_nil,eZ hng,←hv];exact heap_alloc_new w _) (fun _ v hv=>by
   rw[List.mem_singleton.1 hv];exact fun r' o' l c' e=>by cases e;exact⟨hlv,fun h=>absurd h hng⟩) hn' hn2' (fun j qs hj hq=>by
  have:=hi.hlt hj hq;exact⟨oM,Below.heap_alloc w _ _ this⟩)
 refine⟨_,h,_,rfl,hI,Le.refl _,fun j hj=>?_,.inr ⟨1,?_,oM,Nat.le_refl _,by unfold maxLen;omega,?_⟩,?_⟩
 ·rw[aV (by rintro rfl;exact hj hn2'),aV (by rintro rfl;exact hj hn')]
 ·rw[aV oM,cK]
 ·rw[cK];rfl
 ·exact⟨by show aB ((d,_)::_) d≠none;rw[aC,if_pos rfl];simp,by show aB ((d,_)::(d+250,[])::_) (d+250)≠none;rw[aC,if_neg oM,aC,if_pos rfl];simp⟩
theorem xU{T E:TypeId}{s x:Operand}{b y len bytes:Nat}{zs:List Value}{ps:List Pd}{q:Pd}(d:Nat)[hT:CElem P T E 1][hz:CRowZ P E 1 zs bytes](h1:osd sl s=some (.app b 1 len))(hb:aB bx b=some ps)(hlen:ps.length=len)(h2:osd sl x=some (.app y 1 1))(hy:aB bx y=some [q])(hmax:len≤1000000)(hby:Nat.ble bytes 10000=true)(hd:idL d=true)(hn:aB bx d=none)(hn2:aB bx (d+250)=none)(hbd:idL b=true)(hyd:idL y=true){rs:List Pd}(hr:ps++[q]=rs):
  RT P En n ⟨dst,.call ⟨.builtin .append, #[s,x], #[T,T]⟩,ty,pos,after,guard⟩ sl bx ⟨.app d 1 (len+1),[b,y],[(d,rs),(d+250,[]),(b,[])]⟩:=by
 subst hr;intro sl' bx' g1 g2 g3 w0 h0 c h β a w Q hi hs;obtain⟨⟨hd1,hd2⟩,hdl⟩:=sN hd;obtain⟨⟨hb1,hb2⟩,hbl⟩:=sN hbd;obtain⟨_,hyl⟩:=sN hyd;have hn':aB bx' d=none:=by rw[g3 d (by simp)];exact hn
 have hn2':aB bx' (d+250)=none:=by rw[g3 (d+250) (by simp)];exact hn2
 have hb':aB bx' b=some ps:=by rw[g2 b (by simp)];exact hb
 have hy':aB bx' y=some [q]:=by rw[g2 y (by simp)];exact hy
 have hdb:d≠b:=by rintro rfl;rw[hb] at hn;cases hn
 have hsv:=(cH hs (x:=s) (sd:= .app b 1 len) (by rw[g1 s (by simp[Op.operands,Call.operands])];exact h1)).1
 have hxv:=(cH hs (x:=x) (sd:= .app y 1 1) (by rw[g1 x (by simp[Op.operands,Call.operands])];exact h2)).1
 obtain⟨inf,z,q1,q2,q3,q4,q5,q6,q7⟩:=hz.get;have hby:=Nat.le_of_ble_eq_true hby;have hsz:z.cells.size=1:=by rw[q3];simp[q6]
 obtain⟨capx,hx,x2⟩:∃capx,a.eval x= .slice (some ⟨β y,0,none⟩) 1 capx∧1≤capx:=by
  rcases hxv with⟨_,e⟩|⟨capx,e,_,e2,_⟩
  ·cases e
  ·exact⟨capx,e,e2⟩
 obtain⟨_,_,vy,ry,Ty,y1,y2,_,y3⟩:=hi.box y [q] hy' (by simp)
 obtain⟨u,rfl⟩:∃u,vy=[u]:=by
  cases vy with
  |nil=>exact y2.elim
  |cons u us=>cases us with
   |nil=>exact⟨u,rfl⟩
   |cons=>exact y2.2.2.elim
 rw[xJ hyl] at y1;have y3:=y3 hyl;have hua:All2 h [q] [u]:=y2;have hnews:∀j v,[tr β u][j]? =some v→w.cell? ((⟨β y,0,none⟩:Addr).add j)=some v:=fun j v hv=>by
  rw[Addr.add_mid,Nat.zero_add,cell_of_row w _ _ _ Ty _ y1];cases j with
  |zero=>simpa using hv
  |succ j=>simp at hv
 have lZX:∀v∈[tr β u],v.oneCell'=true:=fun v hv=>by rw[List.mem_singleton.1 hv];exact tN hua.2.1
 have hbytes:(len+1)*bytes≤140737488355328:=by
  have:(len+1)*bytes≤1000001*10000:=Nat.mul_le_mul oM hby;omega
 have h63:len+1≤maxLen:=by unfold maxLen;omega
 have done:∀(g cap:Nat) (w':World) (vs rest:List Value) (T':TypeId),(Builtin.append_ #[T,T] ty #[a.eval s,a.eval x]).run P w= .ok (.slice (some ⟨g,0,none⟩) (len+1) cap) w'→All2 h ps vs→(∀v∈vs,oK β bx' v)→
   Holds h w'→BelowM c.M w0 w'→w0.heap.size≤g→(∀o,h g o=none)→w'.heap[g]? =some (.cells ((vs++[u]).map (tr β)++rest).toArray T' (0,0))→((vs++[u])++rest).length=cap→len+1≤cap→cap≤maxLen→
   (∀j qs,aB bx' j=some qs→qs≠[]→j≠b→β j≠g∧w'.heap[β j]? =w.heap[β j]?)→
   Oper.wp P ⟨dst,.call ⟨.builtin .append, #[s,x], #[T,T]⟩,ty,pos,after,guard⟩ a w (fun a' w'=>∃v h' β',a'=a.put dst v∧Inv En w0 h0 c h' β' ([(d,ps++[q]),(d+250,[]),(b,[])]++bx') w'∧Le h h'∧(∀i,aB bx' i≠none→β' i=β i)∧(SD.app d 1 (len+1)).ok h' β' v∧(SD.app d 1 (len+1)).live ([(d,ps++[q]),(d+250,[]),(b,[])]++bx')) Q:=by
  intro g cap w' vs rest T' hrun hall hlrv hh hbel hg hgh hcell hsize hcap hcm hold;have lv:∀r,aB bx' r≠none→aB ((b,([]:List Pd))::bx') r≠none:=fun r hr=>by rw[aC];split<;>simp;exact hr
  have hi0:Inv En w0 h0 c h β ((b,[])::bx') w:=by
   have src:∀j qs,aB ((b,([]:List Pd))::bx') j=some qs→qs≠[]→j≠b∧aB bx' j=some qs:=fun j qs hj hq=>by
    rw[aC] at hj;split at hj
    ·cases hj;exact absurd rfl hq
    ·rename_i e;exact⟨fun h=>e h.symm,hj⟩
   exact⟨hi.env,hi.holds,hi.le0,hi.fresh,hi.below,hi.dis,hi.pin,fun j qs hj hq=>by
    obtain⟨p1,p2,us,rs,T',p3,p4,p5,p6⟩:=hi.box j qs (src j qs hj hq).2 hq;exact⟨p1,p2,us,rs,T',p3,p4,p5,jJ p6 lv⟩,fun i j qs rs hi' hq hj' hr=>hi.inj i j _ _ (src i qs hi' hq).2 hq (src j rs hj' hr).2 hr⟩
  have hI:=hi0.allocA d hd1 hd2 (ps:=ps++[q]) (vs:=vs++[u]) (rest:=rest) (hall.append hua) T' hh hbel hg hgh (by rw[xJ hdl];exact hcell) (fun _ v hv=>by
   rcases List.mem_append.1 hv with hv|hv
   ·exact(kM (hlrv v hv) fun i hi=>⟨lv i hi,rfl⟩).1
   ·exact(kM (y3 v hv) fun i hi=>⟨lv i hi,rfl⟩).1) (by rw[aC,if_neg (by rintro rfl;exact hdb rfl)];exact hn') (by rw[aC,if_neg oM];exact hn2') (fun j rs hj hr=>by
   rw[aC] at hj;split at hj
   ·cases hj;exact absurd rfl hr
   ·rename_i e;exact hold j rs hj hr (fun h=>e h.symm))
  unfold Oper.wp;rw[iP a s x T w hrun];refine⟨_,h,_,rfl,hI,Le.refl _,fun j hj=>?_,.inr ⟨cap,?_,oM,hcap,hcm,?_⟩,?_⟩
  ·rw[aV (by rintro rfl;exact hj hn2'),aV (by rintro rfl;exact hj hn')]
  ·rw[aV oM,cK]
  ·rw[cK,hsize,Nat.mul_one]
  ·exact⟨by show aB ((d,_)::_) d≠none;rw[aC,if_pos rfl];simp,by show aB ((d,_)::(d+250,[])::_) (d+250)≠none;rw[aC,if_neg oM,aC,if_pos rfl];simp⟩
 have newb:∀(vs:List Value) (v':Value) (w':World),All2 h ps vs→(∀v∈vs,oK β bx' v)→(Builtin.append_ #[T,T] ty #[a.eval s,a.eval x]).run P w= .ok v' w'→w'.ownsRow w.heap.size E 1 v' (len+1) ((vs++[u]).map (tr β))→w.grownBy w' none→Oper.wp P ⟨dst,.call ⟨.builtin .append, #[s,x], #[T,T]⟩,ty,pos,after,guard⟩ a w (fun a' w'=>∃v h' β',a'=a.put dst v∧Inv En w0 h0 c h' β' ([(d,ps++[q]),(d+250,[]),(b,[])]++bx') w'∧Le h h'∧(∀i,aB bx' i≠none→β' i=β i)∧(SD.app d 1 (len+1)).ok h' β' v∧(SD.app d 1 (len+1)).live ([(d,ps++[q]),(d+250,[]),(b,[])]++bx')) Q:=by
  intro vs v' w' hall hlrv hr hown hgrow;obtain⟨_,⟨_,o2⟩|⟨g,cap,cur,rfl,o1,o2,o3,o4,o5,o6⟩⟩:=hown
  ·omega
  have hbel:Below w.heap.size w w':=⟨hgrow.os,hgrow.tape,hgrow.output,hgrow.size,fun k hk=>hgrow.block k hk (by simp)⟩
  refine done g cap w' vs (cur.toList.drop ((len+1)*1)) E hr hall hlrv (fun b o v e=>by rw[hbel.cell (p:=⟨b,o,none⟩) (hi.holds.lt e)];exact hi.holds b o v e) (hi.below.below hbel) (Nat.le_trans hi.below.size o1) (fun o=>?_) ?_ ?_ o3 o4 (fun j rs hj hr _=>?_)
  ·cases hh:h g o with
   |none=>rfl
   |some v=>have:=hi.holds.lt hh;omega
  ·rw[←o6,List.take_append_drop];exact o2
  ·have e:=congrArg List.length o6
   have e2:=congrArg List.length (List.take_append_drop ((len+1)*1) cur.toList);rw[List.length_append] at e2;rw[List.length_append];simp only[List.length_map] at e;rw[←e,e2];simpa using o5
  ·have:=hi.hlt hj hr
   exact⟨oM,hbel.block _ this⟩
 rcases hsv with⟨hsv,hl0⟩|⟨cap0,hsv,c1,c2,c3,c4⟩
 ·subst hl0
  have hp0:ps=[]:=List.length_eq_zero_iff.1 hlen;obtain⟨v',w',hr,hown,hgrow,_⟩:=run_append_own (P:=P) w w.heap.size T ty E inf z 1 bytes hT.ok.1 q1 q2 q4 q5 hsz oM (.slice none 0 0) 0 [] (World.ownsRow_nil w _ E 1) ⟨β y,0,none⟩ 1 capx [tr β u] rfl hnews lZX oM oM (Nat.le_refl _);exact newb [] v' w' (by rw[hp0];trivial) (fun v hv=>by cases hv) (by rw[hsv,hx];exact hr) (by simpa using hown) (by simpa [Value.ownBlock] using hgrow)
 ·have hps:ps≠[]:=by rintro rfl;simp at hlen;omega
  obtain⟨r0,r1,vs,rest,T',r2,r3,r4,r5⟩:=hi.box b ps hb' hps;have r5:=r5 hbl;rw[xJ hbl] at r2;have hsize:=r4 ⟨hb1,hb2⟩;rw[←c4,Nat.mul_one] at hsize;have hvl:vs.length=len:=by rw[←r3.length,hlen]
  have hvm:(vs.map (tr β)).length=len*1:=by rw[List.length_map,hvl,Nat.mul_one]
  have hsize2:(vs.map (tr β)++rest).length=cap0:=by simpa using hsize
  by_cases hroom:len+1≤cap0
  ·have hlt:len<(vs.map (tr β)++rest).length:=by rw[hsize2];omega
   have hcl:∀j,j<[tr β u].length→(w.cell? ⟨β b,0+len*inf.size+j,none⟩).isSome=true:=fun j hj=>by
    have hj:j=0:=by simpa using hj
    subst hj;rw[q4,Nat.zero_add,Nat.mul_one,Nat.add_zero,cell_of_row w _ _ _ T' _ r2];simp only[List.getElem?_toArray,List.getElem?_eq_getElem hlt,Option.isSome_some]
   have hfz:∀j,j<[tr β u].length→w.frozen? ⟨β b,0+len*inf.size+j,none⟩=false:=fun j hj=>by
    unfold World.frozen?;simp[r2]
   have hr:=run_append_room_cells (P:=P) w T ty E inf hT.ok.1 q1 (β b) 0 len cap0 ⟨β y,0,none⟩ 1 capx [tr β u] (by rw[q4];rfl) hnews lZX hroom hcl hfz
   rw[q4,Nat.zero_add] at hr;refine done (β b) cap0 _ vs (rest.drop 1) T' (by rw[hsv,hx];exact hr) r3 r5 (fun b' o v e=>?_) (jY (.inl (r0.1 oM)) _ _ _ hi.below) (r0.1 oM) r1 ?_ ?_ hroom c3 (fun j rs hj hr hne=>?_)
   ·have hbb:b'≠β b:=by rintro rfl;rw[r1 o] at e;cases e
    rw[World.cell?_of_block (w:=w) (a:=⟨b',o,none⟩) (cS hbb _ _ _)];exact hi.holds b' o v e
   ·rw[iO [tr β u] (len*1) w _ T' _ r2,←hvm,oX [tr β u] (vs.map (tr β)) rest (by simp at hsize2 ⊢;omega),List.map_append]
    rfl
   ·simp at hsize ⊢;omega
   ·have hne':β j≠β b:=fun e=>hne (hi.inj _ _ _ _ hj hr hb' hps e)
    exact⟨hne',cS hne' _ _ _⟩
  ·obtain⟨v',w',hr,hown,hgrow⟩:=run_append_arg_grows (P:=P) w T ty E inf z 1 bytes hT.ok.1 q1 q2 q4 q5 hsz oM ⟨β b,0,none⟩ len cap0 (vs.map (tr β)) hvm (fun j u hu=>by
    rw[Addr.add_mid,Nat.zero_add,cell_of_row w _ _ _ T' _ r2];have hlt:=(List.getElem?_eq_some_iff.1 hu).1;simpa [List.getElem?_append_left hlt] using hu) ⟨β y,0,none⟩ 1 capx [tr β u] rfl hnews oM h63 hbytes
   exact newb vs v' w' r3 r5 (by rw[hsv,hx];exact hr) (by rw[List.map_append];exact hown) hgrow
end
end
section
open Go.RowKit Limb Det Num
def eF(A:Nat→Nat→Int)(m:Nat):Nat→Nat→Int:=fun r c=>A r c%(m:Int)
theorem jZ6(f:Nat→Int)(m:Nat):(fZf f m).length=m*1:=by rw[Nat.mul_one];exact eG _ m
theorem yB{A:Nat→Nat→Int}{i m:Nat}(r:Nat)(h:r≠i):bN A (i+1) m r=bN A i m r:=by
 by_cases h1:r<i
 ·rw[bA h1,bA oM]
 ·rw[bF h1,bF oM]
def owR(d n:Nat):Nat→Pd:=fun j=>dC (d+j) 0 n n
instance kb83:CBody PZ 83:=cB Tryz.func83
section
variable(En:Ev)
theorem lZW(A:Nat→Nat→Int)(n m:Nat)(hn:1≤n)(hn8:n≤8)(hm:1≤m)(hm2:m≤4294967296):FnG PZ En 83 ([imt A n n,i6 m].map .one) [] (.own 400 0 n n) (mbx 400 200 (fun i=>i) n n (bN (eF A m) n n)):=by
 refine bL Tryz.func83 rfl Tryz.ntmps83 rfl ?_;intro w0 h0 c;refine vS<|vZ jj<|vS<|vZ jj<|js<|vS<|jm jj<|jE jj<|jm jj<|jn<|jb ?_;refine WpD.loop (α:={i:Nat//i≤n}) (fun i=>⟨[(1,.one (i6 m)),(5,.app 701 1 i.1),(11,.one (imt A n n)),(12,.one (i6 n)),(13,.one (i6 i.1))],(701,aS (owR 200 n) i.1)::(951,[])::rws 200 (bN (eF A m) i.1 n)⟩) (fun i=>n-i.1) ⟨0,Nat.zero_le _⟩ ?_ ?_
 ·dsimp only
  exact Sub.mk sJ ⟨.inr rfl,.inr rfl,.inr (bF oM),.inr (bF oM),.inr (bF oM),.inr (bF oM),.inr (bF oM),.inr (bF oM),.inr (bF oM),.inr (bF oM),trivial⟩ (LKeep.all ⟨.inr (fun p hp=>by cases hp),.inl rfl,lkAll.fam rfl trivial⟩)
 rintro⟨i,hi⟩;dsimp only
 by_cases hin:i<n
 ·refine vS<|vLt jj<|vW jj<|vS<|jS (eE jj jj aO)<|vT jj<|vZ jj<|vS<|vZ jj<|js<|vS<|jm jj<|jE jj<|jm jj<|jn<|jb ?_
  refine WpD.loop (α:={j:Nat//j≤n}) (fun j=>⟨[(1,.one (i6 m)),(5,.app 701 1 i),(8,.app 501 1 j.1),(11,.one (imt A n n)),(12,.one (i6 n)),(13,.one (i6 i)),(17,.one (slc 1 (rowL (fun c=>[i6 (A i c)]) n) n)),(18,.one (i6 n)),(19,.one (i6 j.1))],(701,aS (owR 200 n) i)::(951,[])::(501,fZf (eF A m i) j.1)::(751,[])::rws 200 (bN (eF A m) i n)⟩) (fun j=>n-j.1) ⟨0,Nat.zero_le _⟩ ?_ ?_
  ·dsimp only
   refine Sub.mk ?_ ⟨.inl pQ,.inr rfl,.inr rfl,.inr rfl,subBx.fam fFm (fun r _=>PsLe.refl _) trivial⟩ (LKeep.all ⟨.inr (fun p hp=>?_),.inl rfl,.inl rfl,.inl rfl,lkAll.fam rfl trivial⟩)
   ·repeat(first|exact trivial|refine jv rfl ?_|refine jw rfl ⟨js0 rfl,js0 rfl⟩ ?_|refine jx rfl ⟨js0 rfl,js0 rfl⟩ ?_|refine jw rfl (js0 rfl) ?_)
   ·obtain⟨a,ha,rfl⟩:=jH hp
    exact iL ((Fam.live fFm) a oM) uG
  rintro⟨j,hj⟩;dsimp only
  by_cases hjn:j<n
  ·have C1:=aZo En (A i j) (m:Int) oM oM
   refine vS<|vLt jj<|vW jj<|vS<|jS (eU jj jj aO (fun _ _=>jj))<|vT jj<|vZ jj<|jr<|vV jj jj<|jm jj<|vC C1 tB<|jS (bW (ps:=[(_,_)]) ⟨jj,Part.c jj,trivial⟩ jj jj jj)<|RG.SW (LT.plain jj (cC 528 jj jj ((jZ6 _ _)) jj oM oM jj jj jj jj jj jj)) jj<|vZ jj<|jr<|vAd jj wO<|jm jj<|jn ?_;refine⟨⟨j+1,oM⟩,?_,oD⟩;dsimp only;refine Sub.mv 501 528 oM oM oM ⟨pK,⟨_,rfl,cJ oM oM,cJ oM oM,rfl,rfl,js0 rfl,js0 rfl⟩,⟨_,rfl,cI _ _,fT _ _,rfl,rfl,js0 rfl,js0 rfl⟩,pK,pK,pK,pK,pK,pK,trivial⟩ ⟨BMv.growL rfl oM oM oM rfl (PsMv.out fun a ha=>PMv.own (cJ oM oM) ((Fam.live fFm) a oM) uG uG),.inl rfl,BMv.at rfl rfl (fun _=>by unfold grows;omega) oM oM rfl (PsLe.refl _),.inl rfl,mvBx.fam (fun r hr=>BMv.keep (eT oM) oM oM uG ((show Fam _ 200 (bN (eF A m) i n) from fFm) r hr) (PsLe.refl _)) trivial⟩ rfl rfl
  ·have e:j=n:=oM
   subst e;have hrow:PsLe (fZf (eF A m i) j) (bN (eF A m) (i+1) j i):=PsLe.of (bA oM).symm;refine vS<|vLf jj<|jn<|js<|jf jj<|je ?_;refine WpD.sub (τ:=⟨[(1,.one (i6 m)),(5,.app 701 1 i),(8,.own (200+i) 0 j j),(11,.one (imt A j j)),(12,.one (i6 j)),(13,.one (i6 i))],(701,aS (owR 200 j) i)::(951,[])::rws 200 (bN (eF A m) (i+1) j)⟩) (Sub.mv (200+i) 501 oM oM oM ⟨pK,⟨_,rfl,cJ oM oM,cJ oM oM,rfl,rfl,js0 rfl,js0 rfl⟩,⟨_,rfl,cI _ _,oM,rfl,rfl,rfl,(Fam.live fFm) i oM⟩,pK,pK,pK,trivial⟩ ⟨BMv.growL rfl oM oM oM rfl (PsMv.out fun a ha=>PMv.own (cJ oM oM) ((Fam.live fFm) a oM) uG uG),.inl rfl,mvBx.fam (fun r hr=>?_) trivial⟩ rfl ?_) ?_
   ·by_cases h2:r=i
    ·subst h2
     exact BMv.at (eT oM) rfl uG oM oM rfl hrow
    ·exact BMv.keep (eT oM) oM oM uG ((show Fam _ 200 (bN (eF A m) i j) from fFm) r hr) (PsLe.of (yB r h2).symm)
   ·rw[aC,if_neg oM,aC,if_neg oM,kN,if_neg oM];rfl
   refine kR ?_;refine vV jj jj<|RG.SW (LT.plain jj (aZz 732 jj uG jj jj jj)) jj<|RG.SW (LT.plain jj (xU 733 jj jj (eG _ _) jj jj oM jj jj jj jj jj jj jj)) jj<|vZ jj<|jr<|vAd jj wO<|jm jj<|jn ?_;refine⟨⟨i+1,oM⟩,?_,oD⟩;dsimp only;refine Sub.mv 701 733 oM oM oM ⟨pK,⟨_,rfl,cI _ _,fT _ _,rfl,rfl,js0 rfl,js0 rfl⟩,pK,pK,pK,trivial⟩ ⟨BMv.atL rfl rfl (fun _=>by unfold grows;omega) oM oM rfl (PsMv.out (f:=owR 200 j) (n:=i+1) fun a ha=>PMv.own (cJ oM oM) ((Fam.live fFm) a oM) uG uG),.inl rfl,mvBx.fam (fun r hr=>BMv.keep (eT oM) oM oM uG ((show Fam _ 200 (bN (eF A m) (i+1) j) from fFm) r hr) (PsLe.refl _)) trivial⟩ rfl rfl
 ·have e:i=n:=oM
  subst e;refine vS<|vLf jj<|jn<|js<|jf jj<|je ?_;refine WpD.sub (τ:=⟨[(5,.own 400 0 i i)],mbx 400 200 (fun i=>i) i i (bN (eF A m) i i)⟩) (Sub.mv 400 701 oM oM oM ⟨⟨_,rfl,cI _ _,oM,rfl,rfl,rfl,js0 rfl⟩,trivial⟩ ⟨BMv.atL rfl rfl (fun h=>absurd h uG) oM oM rfl (PsMv.out (f:=owR 200 i) (g:=owR 200 i) (n:=i) fun a ha=>PMv.own (cJ oM oM) ((Fam.live fFm) a oM) uG uG),mvBx.fam (l:=[]) (fun r hr=>BMv.keep (eT oM) oM oM uG ((show Fam _ 200 (bN (eF A m) i i) from fFm) r hr) (PsLe.refl _)) trivial⟩ rfl rfl) ?_
  refine kR ?_;refine jm jj<|vZ jj<|ji ?_;refine kC rfl rfl (SLe.rfl' _) (js0 rfl) ⟨.inl pQ,subBx.fam (l:=[]) fFm (fun _ _=>PsLe.refl _) trivial⟩ (LKeep.all ⟨.inr (bI (Fam.live fFm) oM oM),lkAll.fam (l:=[]) rfl trivial⟩)
end
end
section
open Go.RowKit Limb
def sC(bG bT:Nat)(p m k:Int)(n:Nat):List Pd:=[i6 p,i6 m,i6 k,dC bG 0 n n,dC bT 0 n n]
def owP(d n:Nat)(π:Nat→Nat):Nat→Pd:=fun i=>dC (d+π i) 0 n n
def sbx(bS bG dG bT dT:Nat)(p m k:Int)(n:Nat)(π:Nat→Nat)(g t:Nat→List Pd):Bx:=(bS,sC bG bT p m k n)::(bG,aS (owP dG n π) n)::(rws dG g++((bT,aS (owP dT n fun i=>i) n)::rws dT t))
def sbc(p m k:Int)(n:Nat)(π:Nat→Nat)(g t:Nat→List Pd):Bx:=sbx 1750 1760 1001 1780 1011 p m k n π g t
def muS(bS bG dG bT dT:Nat):Nat→Nat:=fun i=>bif Nat.beq i 1750 then bS else bif Nat.beq i 1760 then bG else bif Nat.beq i 1780 then bT else bif Nat.blt i 1011 then dG+(i-1001) else dT+(i-1011)
theorem fZZ{bS bG dG bT dT j:Nat}(h:j<8):muS bS bG dG bT dT (1001+j)=dG+j:=by
 unfold muS;rw[show Nat.beq (1001+j) 1750=false by cases e:Nat.beq (1001+j) 1750;rfl;have:=Nat.eq_of_beq_eq_true e;omega,show Nat.beq (1001+j) 1760=false by cases e:Nat.beq (1001+j) 1760;rfl;have:=Nat.eq_of_beq_eq_true e;omega,show Nat.beq (1001+j) 1780=false by cases e:Nat.beq (1001+j) 1780;rfl;have:=Nat.eq_of_beq_eq_true e;omega,show Nat.blt (1001+j) 1011=true by rw[Nat.blt,Nat.ble_eq];omega]
 simp
theorem fZY{bS bG dG bT dT j:Nat}(h:j<8):muS bS bG dG bT dT (1011+j)=dT+j:=by
 unfold muS;rw[show Nat.beq (1011+j) 1750=false by cases e:Nat.beq (1011+j) 1750;rfl;have:=Nat.eq_of_beq_eq_true e;omega,show Nat.beq (1011+j) 1760=false by cases e:Nat.beq (1011+j) 1760;rfl;have:=Nat.eq_of_beq_eq_true e;omega,show Nat.beq (1011+j) 1780=false by cases e:Nat.beq (1011+j) 1780;rfl;have:=Nat.eq_of_beq_eq_true e;omega,show Nat.blt (1011+j) 1011=false by cases e:Nat.blt (1011+j) 1011;rfl;exact absurd (Nat.le_of_ble_eq_true e) oM]
 simp
theorem aZZ{bS bG dG bT dT:Nat}{p m k:Int}{n:Nat}{π:Nat→Nat}{g t:Nat→List Pd}{bx:Bx}(h:((ids dG).all (fun j=> !Nat.beq bS j)&&(ids dG).all (fun j=> !Nat.beq bG j))=true):Fam (sbx bS bG dG bT dT p m k n π g t++bx) dG g:=by
 rw[Bool.and_eq_true] at h;show Fam ((bS,_)::(bG,_)::((rws dG g++_)++bx)) dG g
 rw[List.append_assoc];exact Fam.skip h.1 (Fam.skip h.2 (wV _ _ _))
theorem aZY{bS bG dG bT dT:Nat}{p m k:Int}{n:Nat}{π:Nat→Nat}{g t:Nat→List Pd}{bx:Bx}(h:(((ids dT).all (fun j=> !Nat.beq bS j)&&(ids dT).all (fun j=> !Nat.beq bG j))&&((Nat.ble (dG+8) dT||Nat.ble (dT+8) dG)&&(ids dT).all (fun j=> !Nat.beq bT j)))=true):Fam (sbx bS bG dG bT dT p m k n π g t++bx) dT t:=by
 rw[Bool.and_eq_true,Bool.and_eq_true,Bool.and_eq_true] at h;show Fam ((bS,_)::(bG,_)::((rws dG g++_)++bx)) dT t
 rw[List.append_assoc];exact Fam.skip h.1.1 (Fam.skip h.1.2 (Fam.skipF h.2.1 (Fam.skip h.2.2 (wV _ _ _))))
theorem boxesL.fam{bx:Bx}{μ:Nat→Nat}{cb:Bx}{d d':Nat}{g:Nat→List Pd}{l:Bx}(hd:∀j,j<8→μ (d+j)=d'+j)(hl:sF d=true)(hf:Fam bx d' g)(r:boxesL bx μ cb l):boxesL bx μ cb (rws d g++l):=by
 have k:∀j,j<8→∃ps',aB bx (μ (d+j))=some ps'∧BoxRel μ cb (d+j) ps' (g j):=fun j hj=>⟨g j,by rw[hd j hj];exact hf j hj,.inr ⟨nZ hl hj,rfl⟩⟩
 exact⟨k 0 oM,k 1 oM,k 2 oM,k 3 oM,k 4 oM,k 5 oM,k 6 oM,k 7 oM,r⟩
theorem outsL.fam{μ:Nat→Nat}{cb:Bx}{d d':Nat}{g:Nat→List Pd}{l l':Bx}(hd:∀j,j<8→μ (d+j)=d'+j)(hl:sF d=true)(r:outsL μ cb l l'):outsL μ cb (rws d g++l) (rws d' g++l'):=by
 have k:∀j,j<8→d'+j=μ (d+j)∧BoxRel μ cb (d+j) (g j) (g j):=fun j hj=>⟨(hd j hj).symm,.inr ⟨nZ hl hj,rfl⟩⟩;exact⟨k 0 oM,k 1 oM,k 2 oM,k 3 oM,k 4 oM,k 5 oM,k 6 oM,k 7 oM,r⟩
theorem rB{p m k:Int}{n:Nat}{π:Nat→Nat}{g t:Nat→List Pd}{j:Nat}(h:j<8):aB (sbc p m k n π g t) (1001+j)≠none:=by
 have:=aZZ (bS:=1750) (bG:=1760) (dG:=1001) (bT:=1780) (dT:=1011) (p:=p) (m:=m) (k:=k) (n:=n) (π:=π) (g:=g) (t:=t) (bx:=[]) rfl;rw[List.append_nil] at this;exact this.live j h
theorem rA{p m k:Int}{n:Nat}{π:Nat→Nat}{g t:Nat→List Pd}{j:Nat}(h:j<8):aB (sbc p m k n π g t) (1011+j)≠none:=by
 have:=aZY (bS:=1750) (bG:=1760) (dG:=1001) (bT:=1780) (dT:=1011) (p:=p) (m:=m) (k:=k) (n:=n) (π:=π) (g:=g) (t:=t) (bx:=[]) rfl;rw[List.append_nil] at this;exact this.live j h
section
variable{P:Program}{En:Ev}{nn:Nat}{sl:Sl}{bx:Bx}{dst:Option Tmp}{ty:TypeId}{pos:String}{after:Array Edge}{guard:Option (Nat×Bool)}
theorem fW{f:FuncId}{xs:List Operand}{ats:Array TypeId}{az:List SD}{p m k:Int}{n:Nat}{π π':Nat→Nat}{g g' t t':Nat→List Pd}{r:Pd}(bS bG dG bT dT:Nat)[hb:CBody P f](hf:FnG P En f az (sbc p m k n π g t) (.one r) (sbc p m k n π' g' t'))(ha:zZ sl (sbc p m k n π g t) (muS bS bG dG bT dT) xs az)
  (hS:aB bx bS=some (sC bG bT p m k n)) (hG:aB bx bG=some (aS (owP dG n π) n)) (hg:Fam bx dG g) (hT:aB bx bT=some (aS (owP dT n fun i=>i) n)) (ht:Fam bx dT t) (hn:n≤8) (hπ:∀i,i<n→π i<8) (hπ':∀i,i<n→π' i<8)
  (ok:dZ4 (muS bS bG dG bT dT) ([1750,1760]++ids 1001++[1780]++ids 1011) ([1750,1760]++ids 1001++[1780]++ids 1011)=true:=by rfl):
  RT P En nn ⟨dst,.call ⟨.value (.func f),xs.toArray,ats⟩,ty,pos,after,guard⟩ sl bx ⟨.one r,bS::bG::(ids dG++bT::ids dT),sbx bS bG dG bT dT p m k n π' g' t'⟩:=by
 have gG:∀ρ:Nat→Nat,(∀i,i<n→ρ i<8)→CsMv (muS bS bG dG bT dT) (sbc p m k n π g t) (aS (owP dG n ρ) n) (aS (owP 1001 n ρ) n):=fun ρ hρ=>CsMv.out fun i hi=>CMv.own (fZZ (hρ i hi)).symm (rB (hρ i hi));have gT:CsMv (muS bS bG dG bT dT) (sbc p m k n π g t) (aS (owP dT n fun i=>i) n) (aS (owP 1011 n fun i=>i) n):=CsMv.out fun i hi=>CMv.own (fZY (show i<8 by omega)).symm (rA (show i<8 by omega))
 have gS:CsMv (muS bS bG dG bT dT) (sbc p m k n π g t) (sC bG bT p m k n) (sC 1760 1780 p m k n):=⟨CMv.flat,CMv.flat,CMv.flat,CMv.own rfl oN,CMv.own rfl oN,trivial⟩;have hids:∀(d d':Nat),(∀j,j<8→muS bS bG dG bT dT (d+j)=d'+j)→∀(ff:Nat→List Pd) (l:Bx),((rws d ff++l).map fun x=>muS bS bG dG bT dT x.1)=ids d'++l.map fun x=>muS bS bG dG bT dT x.1:=fun d d' h ff l=>by
  rw[List.map_append];congr 1
  show[muS bS bG dG bT dT (d+0),muS bS bG dG bT dT (d+1),muS bS bG dG bT dT (d+2),muS bS bG dG bT dT (d+3),muS bS bG dG bT dT (d+4),muS bS bG dG bT dT (d+5),muS bS bG dG bT dT (d+6),muS bS bG dG bT dT (d+7)]=_
  rw[h 0 oM,h 1 oM,h 2 oM,h 3 oM,h 4 oM,h 5 oM,h 6 oM,h 7 oM];rfl
 refine iZ1 (muS bS bG dG bT dT) (sbx bS bG dG bT dT p m k n π' g' t') hf ha ?_ ?_ ok ?_
 ·refine⟨⟨_,hS,.inl ⟨rfl,gS⟩⟩,⟨_,hG,.inl ⟨rfl,gG π hπ⟩⟩,boxesL.fam (d':=dG) (fun j hj=>fZZ hj) rfl hg ⟨⟨_,hT,.inl ⟨rfl,gT⟩⟩,?_⟩⟩
  have:=boxesL.fam (l:=[]) (cb:=sbc p m k n π g t) (d:=1011) (d':=dT) (fun j hj=>fZY (bS:=bS) (bG:=bG) (dG:=dG) (bT:=bT) (dT:=dT) hj) rfl ht trivial;rwa[List.append_nil] at this
 ·refine⟨⟨rfl,.inl ⟨rfl,gS⟩⟩,⟨rfl,.inl ⟨rfl,gG π' hπ'⟩⟩,outsL.fam (d:=1001) (d':=dG) (fun j hj=>fZZ hj) rfl ⟨⟨rfl,.inl ⟨rfl,gT⟩⟩,?_⟩⟩
  have:=outsL.fam (l:=[]) (l':=[]) (cb:=sbc p m k n π g t) (d:=1011) (d':=dT) (g:=t') (fun j hj=>fZY (bS:=bS) (bG:=bG) (dG:=dG) (bT:=bT) (dT:=dT) hj) rfl trivial;rwa[List.append_nil,List.append_nil] at this
 ·show muS bS bG dG bT dT 1750::muS bS bG dG bT dT 1760::((rws 1001 g++((1780,_)::rws 1011 t)).map fun x=>muS bS bG dG bT dT x.1)=_
  rw[hids 1001 dG (fun j hj=>fZZ hj)];have:=hids 1011 dT (fun j hj=>fZY hj) t [];rw[List.append_nil] at this;rw[List.map_cons,this,List.map_nil,List.append_nil];rfl
theorem bZm{bx l:Bx}{d:Nat}{f:Nat→List Pd}(hf:Fam bx d f)(hl:∀i,aB l i=aB bx i)(i:Nat):aB (rws d f++l) i=aB bx i:=by
 rw[iM]
 by_cases h:d≤i∧i<d+8
 ·rw[if_pos h]
  have:=hf (i-d) oM;rw[show d+(i-d)=i by omega] at this
  exact this.symm
 ·rw[if_neg h];exact hl i
theorem uU{bx l:Bx}{b:Nat}{ps:List Pd}(hf:aB bx b=some ps)(hl:∀i,aB l i=aB bx i)(i:Nat):aB ((b,ps)::l) i=aB bx i:=by
 rw[aC];split
 ·rename_i e;rw[←e];exact hf.symm
 ·exact hl i
theorem eV{f:FuncId}{xs:List Operand}{ats:Array TypeId}{az:List SD}{p m k:Int}{n:Nat}{π:Nat→Nat}{g t:Nat→List Pd}{r:Pd}(bS bG dG bT dT:Nat)[hb:CBody P f](hf:FnG P En f az (sbc p m k n π g t) (.one r) (sbc p m k n π g t))(ha:zZ sl (sbc p m k n π g t) (muS bS bG dG bT dT) xs az)
  (hS:aB bx bS=some (sC bG bT p m k n)) (hG:aB bx bG=some (aS (owP dG n π) n)) (hg:Fam bx dG g) (hT:aB bx bT=some (aS (owP dT n fun i=>i) n)) (ht:Fam bx dT t) (hn:n≤8) (hπ:∀i,i<n→π i<8)
  (ok:dZ4 (muS bS bG dG bT dT) ([1750,1760]++ids 1001++[1780]++ids 1011) ([1750,1760]++ids 1001++[1780]++ids 1011)=true:=by rfl):
  RT P En nn ⟨dst,.call ⟨.value (.func f),xs.toArray,ats⟩,ty,pos,after,guard⟩ sl bx ⟨.one r,bS::bG::(ids dG++bT::ids dT),[]⟩:=fun sl' bx' h1 h2 _=>by
 have hm:∀i,i∈(sbx bS bG dG bT dT p m k n π g t).map (·.1)→i∈bS::bG::(ids dG++bT::ids dT):=fun i hi=>by
  have e:(sbx bS bG dG bT dT p m k n π g t).map (·.1)=bS::bG::(ids dG++bT::ids dT):=by
   show bS::bG::((rws dG g++((bT,_)::rws dT t)).map (·.1))=_
   rw[List.map_append,List.map_cons,oS,oS]
  rwa[e] at hi
 refine Tri.alikeW (fW bS bG dG bT dT hf ha hS hG hg hT ht hn hπ hπ ok sl' bx' h1 h2 fun i hi=>h2 i (hm i hi)) ?_;have k1:aB bx' bS=some (sC bG bT p m k n):=(h2 bS (by simp)).trans hS
 have k2:aB bx' bG=some (aS (owP dG n π) n):=(h2 bG (by simp)).trans hG
 have k3:Fam bx' dG g:=fun j hj=>(h2 _ (List.mem_cons_of_mem _ (List.mem_cons_of_mem _ (List.mem_append_left _ (fM hj))))).trans (hg j hj);have k4:aB bx' bT=some (aS (owP dT n fun i=>i) n):=(h2 bT (by simp)).trans hT
 have k5:Fam bx' dT t:=fun j hj=>(h2 _ (List.mem_cons_of_mem _ (List.mem_cons_of_mem _ (List.mem_append_right _ (List.mem_cons_of_mem _ (fM hj)))))).trans (ht j hj);intro i;show aB ((bS,_)::(bG,_)::((rws dG g++((bT,_)::rws dT t))++bx')) i=aB bx' i
 rw[List.append_assoc];exact uU k1 (uU k2 (bZm k3 (uU k4 (bZm k5 fun _=>rfl)))) i
end
theorem subBx.sbx{s:Bx}{bS bG dG bT dT:Nat}{p m k:Int}{n:Nat}{π:Nat→Nat}{g g0 t t0:Nat→List Pd}{l:Bx}(hS:aB s bS=some (sC bG bT p m k n))(hG:aB s bG=some (aS (owP dG n π) n))(hg:Fam s dG g0)(hT:aB s bT=some (aS (owP dT n fun i=>i) n))(ht:Fam s dT t0)(eg:∀j,j<8→PsLe (g0 j) (g j))(et:∀j,j<8→PsLe (t0 j) (t j))(hl:subBx s l):subBx s (sbx bS bG dG bT dT p m k n π g t++l):=by
 show subBx s ((bS,_)::(bG,_)::((rws dG g++((bT,_)::rws dT t))++l))
 rw[List.append_assoc];exact⟨.inl ⟨_,hS,PsLe.refl _⟩,.inl ⟨_,hG,PsLe.refl _⟩,subBx.fam hg eg ⟨.inl ⟨_,hT,PsLe.refl _⟩,subBx.fam ht et hl⟩⟩
theorem lkAll.sbx{full:Bx}{bS bG dG bT dT:Nat}{p m k:Int}{n:Nat}{π:Nat→Nat}{g t:Nat→List Pd}{l:Bx}(hG:aB full bG≠none)(hT:aB full bT≠none)(ng:¬grows bG∧¬grows bT)(hg:∀j,j<8→aB full (dG+j)≠none)(ht:∀j,j<8→aB full (dT+j)≠none)(hd:(dG+8≤400∨1000≤dG)∧(dT+8≤400∨1000≤dT))(hn:n≤8)(hπ:∀i,i<n→π i<8)(h1:sF dG=true)(h2:sF dT=true)(hl:lkAll full l):lkAll full (sbx bS bG dG bT dT p m k n π g t++l):=by
 show lkAll full ((bS,_)::(bG,_)::((rws dG g++((bT,_)::rws dT t))++l))
 rw[List.append_assoc];refine⟨.inr fun q hq=>?_,.inr (bI hg hd.1 hπ),lkAll.fam h1 ⟨.inr (bI (π:=fun i=>i) ht hd.2 fun i hi=>oM),lkAll.fam h2 hl⟩⟩;unfold sC at hq;simp only[List.mem_cons,List.not_mem_nil,or_false] at hq;rcases hq with rfl|rfl|rfl|rfl|rfl
 ·exact gX
 ·exact gX
 ·exact gX
 ·exact iL hG ng.1
 ·exact iL hT ng.2
theorem eI{s:Bx}{p m k:Int}{n:Nat}{π:Nat→Nat}{g g0 t t0:Nat→List Pd}(hS:aB s 1750=some (sC 1760 1780 p m k n))(hG:aB s 1760=some (aS (owP 1001 n π) n))(hg:Fam s 1001 g0)(hT:aB s 1780=some (aS (owP 1011 n fun i=>i) n))(ht:Fam s 1011 t0)(eg:∀j,j<8→PsLe (g0 j) (g j))(et:∀j,j<8→PsLe (t0 j) (t j)):subBx s (sbc p m k n π g t):=by
 have:=subBx.sbx (l:=[]) hS hG hg hT ht eg et trivial;rwa[List.append_nil] at this
theorem dY{s:Bx}{p m k:Int}{n:Nat}{π:Nat→Nat}{g t:Nat→List Pd}(hn:n≤8)(hπ:∀i,i<n→π i<8):LKeep s (sbc p m k n π g t):=by
 refine LKeep.all ?_;have:=lkAll.sbx (l:=[]) (full:=sbc p m k n π g t) (bS:=1750) (bG:=1760) (dG:=1001) (bT:=1780) (dT:=1011) (p:=p) (m:=m) (k:=k) (n:=n) (π:=π) (g:=g) (t:=t) (js0 rfl) (by
  have:aB (sbc p m k n π g t) 1780=some (aS (owP 1011 n fun i=>i) n):=rfl;rw[this];simp) uG (fun j hj=>rB hj) (fun j hj=>rA hj) oM hn hπ rfl rfl trivial
 rwa[List.append_nil] at this
theorem nE{b:Nat}{ps:List Pd}{l:Bx}{i:Nat}(h:aB l i≠none):aB ((b,ps)::l) i≠none:=by rw[aC];split<;>simp;exact h
theorem sL{s:Bx}{b:Nat}{ps:List Pd}{p m k:Int}{n:Nat}{π:Nat→Nat}{g t:Nat→List Pd}(hn:n≤8)(hπ:∀i,i<n→π i<8)(hb:lk b=false:=by rfl):LKeep s ((b,ps)::sbc p m k n π g t):=by
 refine LKeep.all ⟨.inl hb,?_⟩;have:=lkAll.sbx (l:=[]) (full:=(b,ps)::sbc p m k n π g t) (bS:=1750) (bG:=1760) (dG:=1001) (bT:=1780) (dT:=1011) (p:=p) (m:=m) (k:=k) (n:=n) (π:=π) (g:=g) (t:=t) (nE (js0 rfl)) (nE (by
  have:aB (sbc p m k n π g t) 1780=some (aS (owP 1011 n fun i=>i) n):=rfl;rw[this];simp)) uG (fun j hj=>nE (rB hj)) (fun j hj=>nE (rA hj)) oM hn hπ rfl rfl trivial
 rwa[List.append_nil] at this
theorem nZ4{P:Program}{fn:Func}{σ:St}{bx':Bx}{t b k:Nat}{T:TypeId}{ps:List Pd}[ht:CRow P T k](hf:fn.results= #[.cell t T])(h1:aB σ.sl t=some (.ptr b 0))(h2:aB σ.bx b=some ps)(hs:subBx σ.bx bx')(hk:LKeep σ.bx bx')(hl:Nat.beq ps.length k=true:=by rfl)(hlk:lk b=false:=by rfl):aZq P fn σ (.one (cD ps)) bx':=by
 refine⟨⟨hs,hk⟩,fun En nn w0 h0 c h β u w hi hsl=>?_⟩;obtain⟨v,hv,hp⟩:=(RV.cell h1 h2 ht.ok hl hlk).run hi hsl;exact⟨v,by rw[fJ,hf];simp[hv],hp,trivial⟩
theorem fFs{bx:Bx}{d:Nat}{f:Nat→List Pd}(h:Fam bx d f:=by (try dsimp only);repeat(first|exact wV _ _ _|exact fam_rws0 _ _|apply Fam.skipF (by rfl)|exact aZZ rfl|exact aZY rfl|exact fam_sbx_g0 rfl|exact fam_sbx_t0 rfl|apply Fam.skip (by rfl)|rw[List.cons_append]|rw[List.nil_append])):Fam bx d f:=h
end
section
open Go.RowKit Limb
theorem eZu:gR Tryz.prog 137 [.int .i64 0,.int .i64 0,.int .i64 0,.slice none 0 0,.slice none 0 0]:=⟨by kernel_rfl,by simp[Value.oneCell']⟩
instance kZD:CField Tryz.prog 137 0 0:=⟨⟨_,_,Tryz.underlying137,rfl,rfl,by kernel_rfl⟩⟩
instance kZC:CField Tryz.prog 137 1 1:=⟨⟨_,_,Tryz.underlying137,rfl,rfl,by kernel_rfl⟩⟩
instance kZB:CField Tryz.prog 137 2 2:=⟨⟨_,_,Tryz.underlying137,rfl,rfl,by kernel_rfl⟩⟩
instance kZA:CField Tryz.prog 137 3 3:=⟨⟨_,_,Tryz.underlying137,rfl,rfl,by kernel_rfl⟩⟩
instance kZ9:CField Tryz.prog 137 4 4:=⟨⟨_,_,Tryz.underlying137,rfl,rfl,by kernel_rfl⟩⟩
instance kZ6:CStruct Tryz.prog 137 [(0,1),(1,1),(2,1),(3,1),(4,1)] [.int .i64 0,.int .i64 0,.int .i64 0,.slice none 0 0,.slice none 0 0]:=⟨⟨eZu,_,Tryz.underlying137,fun _=>by kernel_rfl⟩⟩
theorem xB:gR Tryz.prog 131 [.int .i64 0,.int .i64 0,.int .i64 0,.int .i64 0,.int .i64 0]:=⟨by kernel_rfl,by simp[Value.oneCell']⟩
instance pZz:CRow Tryz.prog 131 5:=⟨⟨_,Tryz.underlying131,rfl,by kernel_rfl⟩⟩
instance kZK:CField Tryz.prog 131 0 0:=⟨⟨_,_,Tryz.underlying131,rfl,rfl,by kernel_rfl⟩⟩
instance kZJ:CField Tryz.prog 131 1 1:=⟨⟨_,_,Tryz.underlying131,rfl,rfl,by kernel_rfl⟩⟩
instance kZI:CField Tryz.prog 131 2 2:=⟨⟨_,_,Tryz.underlying131,rfl,rfl,by kernel_rfl⟩⟩
instance kZH:CField Tryz.prog 131 3 3:=⟨⟨_,_,Tryz.underlying131,rfl,rfl,by kernel_rfl⟩⟩
instance kZG:CField Tryz.prog 131 4 4:=⟨⟨_,_,Tryz.underlying131,rfl,rfl,by kernel_rfl⟩⟩
instance nZG:CZero Tryz.prog 131 [.int .i64 0,.int .i64 0,.int .i64 0,.int .i64 0,.int .i64 0]:=⟨xB⟩
instance kZ8:CStruct Tryz.prog 131 [(0,1),(1,1),(2,1),(3,1),(4,1)] [.int .i64 0,.int .i64 0,.int .i64 0,.int .i64 0,.int .i64 0]:=⟨⟨xB,_,Tryz.underlying131,fun _=>by kernel_rfl⟩⟩
theorem uV:gR Tryz.prog 78 [.int .i64 0,.slice none 0 0,.slice none 0 0]:=⟨by kernel_rfl,by simp[Value.oneCell']⟩
instance nZN:CRow Tryz.prog 78 3:=⟨⟨_,Tryz.underlying78,rfl,by kernel_rfl⟩⟩
instance kZq:CField Tryz.prog 78 0 0:=⟨⟨_,_,Tryz.underlying78,rfl,rfl,by kernel_rfl⟩⟩
instance kZp:CField Tryz.prog 78 1 1:=⟨⟨_,_,Tryz.underlying78,rfl,rfl,by kernel_rfl⟩⟩
instance kZo:CField Tryz.prog 78 2 2:=⟨⟨_,_,Tryz.underlying78,rfl,rfl,by kernel_rfl⟩⟩
instance mZz:CZero Tryz.prog 78 [.int .i64 0,.slice none 0 0,.slice none 0 0]:=⟨uV⟩
instance kZg:CStruct Tryz.prog 78 [(0,1),(1,1),(2,1)] [.int .i64 0,.slice none 0 0,.slice none 0 0]:=⟨⟨uV,_,Tryz.underlying78,fun _=>by kernel_rfl⟩⟩
instance mZ5:CSlice Tryz.prog 76 131:=⟨Tryz.underlying76⟩
instance nZX:CElem Tryz.prog 76 131 5:=⟨Tryz.underlying76,by kernel_rfl⟩
instance nZP:COne Tryz.prog 76:=⟨⟨_,Tryz.underlying76,rfl,by kernel_rfl⟩⟩
instance nZM:CRowZ Tryz.prog 131 5 [.int .i64 0,.int .i64 0,.int .i64 0,.int .i64 0,.int .i64 0] 40:=⟨by kernel_rfl,rfl,rfl⟩
end
section
open Go.RowKit Limb Det Num
def MB(n m:Nat)(A:Nat→Nat→Int):Prop:=∀r x,r<n→x<n→0≤A r x∧A r x<(m:Int)
structure Pm(n:Nat)(π σ:Nat→Nat):Prop where
 lt:∀i,i<n→π i<n
 lt':∀i,i<n→σ i<n
 l:∀i,i<n→σ (π i)=i
 r:∀i,i<n→π (σ i)=i
theorem Pm.id(n:Nat):Pm n (fun i=>i) (fun i=>i):=⟨fun _ h=>h,fun _ h=>h,fun _ _=>rfl,fun _ _=>rfl⟩
theorem Pm.lt8{n:Nat}{π σ:Nat→Nat}(h:Pm n π σ)(hn:n≤8):∀i,i<n→π i<8:=fun i hi=>by have:=h.lt i hi;omega
def gM(σ:Nat→Nat)(A:Nat→Nat→Int)(n:Nat):Nat→List Pd:=bN (fun r c=>A (σ r) c) n n
theorem pF{n:Nat}{π σ:Nat→Nat}{A:Nat→Nat→Int}{f:Nat→Int}(h:Pm n π σ){k:Nat}(hk:k<n)(hf:∀x,x<n→A k x=f x):gM σ A n (π k)=aS (fun x=>i6 (f x)) n:=by
 unfold gM;rw[bA (h.lt k hk)];exact cA fun x hx=>by dsimp only;rw[h.l k hk,hf x hx]
theorem cZW{n:Nat}{A:Nat→Nat→Int}{f:Nat→Int}{k:Nat}(hk:k<n)(hf:∀x,x<n→A k x=f x):bN A n n k=aS (fun x=>i6 (f x)) n:=by
 rw[bA hk];exact cA fun x hx=>by rw[hf x hx]
theorem cZk{n:Nat}{π σ:Nat→Nat}{A B:Nat→Nat→Int}{g:Nat→Pd}(h:Pm n π σ){k:Nat}(hk:k<n)(h1:∀r x,r<n→r≠k→x<n→B r x=A r x)(h2:∀x,x<n→g x=i6 (B k x)):oJ (gM σ A n) (π k) (aS g n)=gM σ B n:=by
 funext r
 unfold gM
 by_cases hr:r<n
 ·rw[bA hr]
  by_cases e:r=π k
  ·rw[e,nN]
   exact cA fun x hx=>by dsimp only;rw[h2 x hx,h.l k hk]
  ·rw[pL e,bA hr]
   exact cA fun x hx=>by dsimp only;rw[h1 (σ r) x (h.lt' r hr) (fun q=>e (by rw[←q,h.r r hr])) hx]
 ·rw[bF hr,pL (by have:=h.lt k hk;omega),bF hr]
theorem aZ4{n:Nat}{A B:Nat→Nat→Int}{g:Nat→Pd}{k:Nat}(hk:k<n)(h1:∀r x,r<n→r≠k→x<n→B r x=A r x)(h2:∀x,x<n→g x=i6 (B k x)):oJ (bN A n n) k (aS g n)=bN B n n:=cZk (Pm.id n) hk h1 h2
theorem zK{n:Nat}{π σ:Nat→Nat}{A B:Nat→Nat→Int}(h:Pm n π σ)(h1:∀r x,r<n→x<n→A r x=B r x):gM σ A n=gM σ B n:=by
 funext r
 unfold gM
 by_cases hr:r<n
 ·rw[bA hr,bA hr]
  exact cA fun x hx=>by dsimp only;rw[h1 _ x (h.lt' r hr) hx]
 ·rw[bF hr,bF hr]
def colA(m:Nat)(c:Int)(i j k:Nat)(A:Nat→Nat→Int):Nat→Nat→Int:=fun r x=>if r<k∧x=j then(A r j+c*A r i)%(m:Int) else A r x
def rowA(m:Nat)(c:Int)(i j k:Nat)(A:Nat→Nat→Int):Nat→Nat→Int:=fun r x=>if r=j∧x<k then(A j x+c*A i x)%(m:Int) else A r x
def addM(m:Nat)(c:Int)(i j n:Nat)(A:Nat→Nat→Int):Nat→Nat→Int:=rowA m c i j n (colA m c i j n A)
theorem MB.colA{n m:Nat}{A:Nat→Nat→Int}(h:MB n m A)(hm:1≤m)(c:Int)(i j k:Nat):MB n m (colA m c i j k A):=fun r x hr hx=>by
 unfold Go.Proofs.YtfmjdlogjmofbaaGreatDoor.colA;split
 ·exact⟨Int.emod_nonneg _ oM,Int.emod_lt_of_pos _ oM⟩
 ·exact h r x hr hx
theorem MB.rowA{n m:Nat}{A:Nat→Nat→Int}(h:MB n m A)(hm:1≤m)(c:Int)(i j k:Nat):MB n m (rowA m c i j k A):=fun r x hr hx=>by
 unfold Go.Proofs.YtfmjdlogjmofbaaGreatDoor.rowA;split
 ·exact⟨Int.emod_nonneg _ oM,Int.emod_lt_of_pos _ oM⟩
 ·exact h r x hr hx
theorem MB.addM{n m:Nat}{A:Nat→Nat→Int}(h:MB n m A)(hm:1≤m)(c:Int)(i j:Nat):MB n m (addM m c i j n A):=(h.colA hm c i j n).rowA hm c i j n
theorem kZ2(a b m:Int):(a+b.tmod m)%m=(a+b)%m:=by
 have e:=Int.tmod_add_mul_tdiv b m;rw[show a+b=(a+b.tmod m)+m*(b.tdiv m) by omega,Int.add_mul_emod_self_left]
theorem mO{m:Nat}{c x:Int}(hm:m≤2147483648)(hc:c.natAbs≤2147483648)(hx:0≤x∧x<m): -4611686018427387904≤c*x∧c*x≤4611686018427387904:=by
 have h1:(c*x).natAbs=c.natAbs*x.natAbs:=Int.natAbs_mul ..;have h2:c.natAbs*x.natAbs≤2147483648*2147483648:=Nat.mul_le_mul hc oM;omega
theorem kZY(a:Int){m:Nat}(hm:1≤m): -(m:Int)<a.tmod m∧a.tmod m<m:=by
 have h:=Int.natAbs_tmod a m;have h2:a.natAbs%(m:Int).natAbs<(m:Int).natAbs:=Nat.mod_lt _ oM;rw[←h] at h2;omega
def bZp(p k x:Nat):Nat:=if x=0 then k else fH p x
instance kb140:CBody PZ 140:=cB Tryz.func140
instance kb87:CBody PZ 87:=cB Tryz.func87
instance kb85:CBody PZ 85:=cB Tryz.func85
instance kb84:CBody PZ 84:=cB Tryz.func84
instance kb88:CBody PZ 88:=cB Tryz.func88
instance kb32:CBody PZ 32:=cB Tryz.func32
section
variable(En:Ev)
theorem fZg(p k x n:Nat)(m:Int)(π:Nat→Nat)(g t:Nat→List Pd)(hn:n≤8)(hπ:∀i,i<n→π i<8)(hp:2≤p)(hp2:p≤4294967296)(hx:x≤4294967296):FnG PZ En 140 [.ptr 1750 0,.one (i6 x)] (sbc (p:Int) m (k:Int) n π g t) (.one (i6 ((bZp p k x:Nat):Int))) (sbc (p:Int) m (k:Int) n π g t):=by
 have C1:=uI En x p hp hp2 hx;unfold bZp
 by_cases h0:x=0
 ·rw[if_pos h0]
  refine bL Tryz.func140 rfl Tryz.ntmps140 rfl ?_;intro w0 h0 c;refine vS<|vZ jj<|js<|vS<|jm jj<|vEt jj<|jn<|jt jj<|vS<|jm jj<|vN jj<|vF jj<|jS (gC jj jj jj)<|vZ jj<|ji ?_;exact kC rfl rfl (SLe.rfl' _) trivial (eI rfl rfl fFs rfl fFs (fun _ _=>PsLe.refl _) (fun _ _=>PsLe.refl _)) (dY oM hπ)
 ·rw[if_neg h0]
  refine bL Tryz.func140 rfl Tryz.ntmps140 rfl ?_;intro w0 h0 c;refine vS<|vZ jj<|js<|vS<|jm jj<|vEf jj<|jn<|jf jj<|jp<|vS<|vV jj jj<|vN jj<|vF jj<|jS (gC jj jj jj)<|vC C1 tB<|vZ jj<|ji ?_;exact kC rfl rfl (SLe.rfl' _) trivial (eI rfl rfl fFs rfl fFs (fun _ _=>PsLe.refl _) (fun _ _=>PsLe.refl _)) (dY oM hπ)
theorem mZc(p m k n i j:Nat)(v:Int)(π σ:Nat→Nat)(A T:Nat→Nat→Int)(hP:Pm n π σ)(hn:n≤8)(hi:i<n)(hj:j<n)(hij:i≠j)(hm:1≤m)(hm2:m≤2147483648)(hc:v.natAbs≤2147483648)(hA:MB n m A)(hT:MB n m T):FnG PZ En 87 [.ptr 1750 0,.one (i6 v),.one (i6 i),.one (i6 j)] (sbc (p:Int) (m:Int) (k:Int) n π (gM σ A n) (bN T n n)) (.one (ex (.tuple #[]))) (sbc (p:Int) (m:Int) (k:Int) n π (gM σ (addM m v i j n A) n) (bN (colA m v i j n T) n n)):=by
 have hπ:=hP.lt8 hn;have hm0:(m:Int)≠0:=oM;have step:∀a x y:Int,0≤x∧x<(m:Int)→0≤y∧y<(m:Int)→(IntKind.i64.wrap (v*y)=v*y∧IntKind.i64.wrap (x+(v*y).tmod (m:Int))=x+(v*y).tmod (m:Int)):=fun a x y hx hy=>by
  have h1:=mO hm2 hc hy;have h2:=kZY (v*y) hm;exact⟨w64 oM oM,w64 oM oM⟩
 have C:∀x y:Int,Fn PZ En 139 [i6 (x+(v*y).tmod (m:Int)),i6 m] (i6 ((x+v*y)%(m:Int))):=fun x y=>by
  have:=aZo En (x+(v*y).tmod (m:Int)) (m:Int) oM oM;rwa[kZ2] at this
 refine bL Tryz.func87 rfl Tryz.ntmps87 rfl ?_;intro w0 h0 c;refine js<|vS<|jm jj<|vN jj<|vF jj<|jS (bQ jj jj jj uG)<|jS (cP jj CSlice.ok)<|jm jj<|jn<|jb ?_;refine WpD.loop (α:={l:Nat//l≤n}) (fun l=>⟨[(0,.ptr 1750 0),(1,.one (i6 v)),(2,.one (i6 i)),(3,.one (i6 j)),(15,.one (i6 n)),(16,.one (i6 l.1))],sbc (p:Int) (m:Int) (k:Int) n π (gM σ (colA m v i j l.1 A) n) (bN T n n)⟩) (fun l=>n-l.1) ⟨0,Nat.zero_le _⟩ ?_ ?_
 ·dsimp only
  exact Sub.mk sJ (eI rfl rfl fFs rfl fFs (fun r hr=>PsLe.of (congrFun (zK hP fun a b _ _=>by unfold colA;rw[if_neg oM]) r)) (fun r hr=>PsLe.refl _)) (dY oM hπ)
 rintro⟨l,hl⟩;dsimp only
 by_cases hln:l<n
 ·have hr8:=hπ l hln
  have he:gM σ (colA m v i j l A) n (π l)=aS (fun x=>i6 (A l x)) n:=pF hP hln fun x _=>by unfold colA;rw[if_neg oM]
  obtain⟨e1,e2⟩:=step 0 (A l j) (A l i) (hA l j hln hj) (hA l i hln hi);refine vS<|vLt jj<|vW jj<|vS<|jm jj<|vZ jj<|jr<|jm jj<|vN jj<|vF jj<|jS (bQ jj jj jj uG)<|jm jj<|jS (aF jj jj aO) ?_;refine jS (bB jj jj aO jj aG)<|vV jj jj<|vN jj<|vF jj<|jS (bQ jj jj jj uG)<|jm jj<|jS (aF jj jj aO) ?_;refine jS (bB jj jj aO jj aG)<|jm jj<|jS (aF jj jj aO)<|jS (cF jj fFs aO aR aO) ?_;refine vV jj jj<|vN jj<|vF jj<|jS (bQ jj jj jj uG)<|jm jj<|jS (aF jj jj aO) ?_;refine jS (bB jj jj aO jj aG)<|jm jj<|jS (aF jj jj aO)<|jS (cF jj fFs aO aR aO) ?_;refine vMu jj e1<|jm jj<|vN jj<|vF jj<|jS (gC jj jj jj)<|jS (aY jj jj (fun w=>cR w _ _ _ _ _ _ aW))<|vAd jj e2<|jm jj<|vN jj<|vF jj<|jS (gC jj jj jj)<|jS (aQ (C (A l j) (A l i)) tB)<|jS (aF jj jj aO)<|RG.NW (LT.plain jj (gW jj jj fFs aO aR aO)) jj ?_;refine jn<|jr<|vAd jj wO<|jm jj<|jn ?_;refine⟨⟨l+1,oM⟩,?_,oD⟩;dsimp only;exact Sub.mk sJ (eI rfl rfl fFs rfl fFs (fun r hr=>PsLe.of (congrFun (cZk (B:=colA m v i j (l+1) A) hP hln (fun a b _ hne _=>by unfold colA;by_cases e:a<l∧b=j;rw[if_pos e,if_pos oM];rw[if_neg e,if_neg oM]) (fun x _=>by unfold colA;by_cases e:x=j;rw[if_pos e,if_pos oM];rw[if_neg e,if_neg oM])) r)) (fun r hr=>PsLe.refl _)) (dY oM hπ)
 ·have e:l=n:=oM
  subst e;have hB:=hA.colA hm v i j l;generalize hBe:colA m v i j l A=B at*;refine vS<|vLf jj<|vU jj<|js<|vS<|jm jj<|vN jj<|vF jj<|jS (bQ jj jj jj uG)<|jS (cP jj CSlice.ok)<|jm jj<|jn<|jb ?_;refine WpD.loop (α:={q:Nat//q≤l}) (fun q=>⟨[(0,.ptr 1750 0),(1,.one (i6 v)),(2,.one (i6 i)),(3,.one (i6 j)),(66,.one (i6 l)),(67,.one (i6 q.1))],sbc (p:Int) (m:Int) (k:Int) l π (gM σ (rowA m v i j q.1 B) l) (bN T l l)⟩) (fun q=>l-q.1) ⟨0,Nat.zero_le _⟩ ?_ ?_
  ·dsimp only
   exact Sub.mk sJ (eI rfl rfl fFs rfl fFs (fun r hr=>PsLe.of (congrFun (zK hP fun a b _ _=>by unfold rowA;rw[if_neg oM]) r)) (fun r hr=>PsLe.refl _)) (dY oM hπ)
  rintro⟨q,hq⟩;dsimp only
  by_cases hqn:q<l
  ·have hr8:=hπ j hj
   have hr8':=hπ i hi;have he:gM σ (rowA m v i j q B) l (π j)=aS (fun x=>i6 (rowA m v i j q B j x)) l:=pF hP hj fun x _=>rfl;have he':gM σ (rowA m v i j q B) l (π i)=aS (fun x=>i6 (B i x)) l:=pF hP hi fun x _=>by unfold rowA;rw[if_neg oM]
   obtain⟨e1,e2⟩:=step 0 (B j q) (B i q) (hB j q hj hqn) (hB i q hi hqn);have e0:rowA m v i j q B j q=B j q:=by unfold rowA;rw[if_neg oM]
   rw[←e0] at e2;have C1:=C (B j q) (B i q);rw[←e0] at C1;refine vS<|vLt jj<|vW jj<|vS<|jm jj<|vZ jj<|jr<|jm jj<|vN jj<|vF jj<|jS (bQ jj jj jj uG)<|jm jj<|jS (aF jj jj aO) ?_;refine jS (bB jj jj aO jj aG)<|vV jj jj<|vN jj<|vF jj<|jS (bQ jj jj jj uG)<|jm jj<|jS (aF jj jj aO) ?_;refine jS (bB jj jj aO jj aG)<|jm jj<|jS (aF jj jj aO)<|jS (cF jj fFs aO aR aO) ?_;refine vV jj jj<|vN jj<|vF jj<|jS (bQ jj jj jj uG)<|jm jj<|jS (aF jj jj aO) ?_;refine jS (bB jj jj aO jj aG)<|jm jj<|jS (aF jj jj aO)<|jS (cF jj fFs aO aR aO) ?_;refine vMu jj e1<|jm jj<|vN jj<|vF jj<|jS (gC jj jj jj)<|jS (aY jj jj (fun w=>cR w _ _ _ _ _ _ aW))<|vAd jj e2<|jm jj<|vN jj<|vF jj<|jS (gC jj jj jj)<|vC C1 tB<|jS (aF jj jj aO)<|RG.NW (LT.plain jj (gW jj jj fFs aO aR aO)) jj ?_;refine jn<|jr<|vAd jj wO<|jm jj<|jn ?_;refine⟨⟨q+1,oM⟩,?_,oD⟩;dsimp only;refine Sub.mk ?_ (eI rfl rfl fFs rfl fFs (fun r hr=>PsLe.of (congrFun (cZk (B:=rowA m v i j (q+1) B) hP hj (fun a b _ hne _=>by unfold rowA;rw[if_neg oM,if_neg oM]) (fun x _=>?_)) r)) (fun r hr=>PsLe.refl _)) (dY oM hπ)
   ·repeat(first|exact trivial|refine jv rfl ?_|refine jw rfl (js0 rfl) ?_)
   by_cases e:x=q
   ·rw[if_pos e,e0]
    unfold rowA;rw[if_pos ⟨rfl,oM⟩,e]
   ·rw[if_neg e]
    unfold rowA
    by_cases e3:x<q
    ·rw[if_pos ⟨rfl,e3⟩,if_pos ⟨rfl,oM⟩]
    ·rw[if_neg oM,if_neg oM]
  ·have e:q=l:=oM
   subst e;have hD:rowA m v i j q B=addM m v i j q A:=by unfold addM;rw[hBe]
   rw[hD];refine vS<|vLf jj<|vU jj<|vS<|jm jj<|vN jj<|vF jj<|jS (bQ jj jj jj uG)<|jS (cP jj CSlice.ok)<|jm jj<|jn<|jb ?_;refine WpD.loop (α:={o:Nat//o≤q}) (fun o=>⟨[(0,.ptr 1750 0),(1,.one (i6 v)),(2,.one (i6 i)),(3,.one (i6 j)),(117,.one (i6 q)),(118,.one (i6 o.1))],sbc (p:Int) (m:Int) (k:Int) q π (gM σ (addM m v i j q A) q) (bN (colA m v i j o.1 T) q q)⟩) (fun o=>q-o.1) ⟨0,Nat.zero_le _⟩ ?_ ?_
   ·dsimp only
    exact Sub.mk sJ (eI rfl rfl fFs rfl fFs (fun r hr=>PsLe.refl _) (fun r hr=>PsLe.of (congrFun (fR fun a b _ _=>by unfold colA;rw[if_neg oM]) r))) (dY oM hπ)
   rintro⟨o,ho⟩;dsimp only
   by_cases hon:o<q
   ·have hr8:o<8:=oM
    have he:bN (colA m v i j o T) q q o=aS (fun x=>i6 (T o x)) q:=cZW hon fun x _=>by unfold colA;rw[if_neg oM]
    obtain⟨e1,e2⟩:=step 0 (T o j) (T o i) (hT o j hon hj) (hT o i hon hi);refine vS<|vLt jj<|vW jj<|vS<|jm jj<|vZ jj<|jr<|jm jj<|vN jj<|vF jj<|jS (bQ jj jj jj uG)<|jm jj<|jS (aF jj jj aO) ?_;refine jS (bB jj jj aO jj aG)<|vV jj jj<|vN jj<|vF jj<|jS (bQ jj jj jj uG)<|jm jj<|jS (aF jj jj aO) ?_;refine jS (bB jj jj aO jj aG)<|jm jj<|jS (aF jj jj aO)<|jS (cF jj fFs aO aR aO) ?_;refine vV jj jj<|vN jj<|vF jj<|jS (bQ jj jj jj uG)<|jm jj<|jS (aF jj jj aO) ?_;refine jS (bB jj jj aO jj aG)<|jm jj<|jS (aF jj jj aO)<|jS (cF jj fFs aO aR aO) ?_;refine vMu jj e1<|jm jj<|vN jj<|vF jj<|jS (gC jj jj jj)<|jS (aY jj jj (fun w=>cR w _ _ _ _ _ _ aW))<|vAd jj e2<|jm jj<|vN jj<|vF jj<|jS (gC jj jj jj)<|jS (aQ (C (T o j) (T o i)) tB)<|jS (aF jj jj aO)<|RG.NW (LT.plain jj (gW jj jj fFs aO aR aO)) jj ?_;refine jn<|jr<|vAd jj wO<|jm jj<|jn ?_;refine⟨⟨o+1,oM⟩,?_,oD⟩;dsimp only;exact Sub.mk sJ (eI rfl rfl fFs rfl fFs (fun r hr=>PsLe.refl _) (fun r hr=>PsLe.of (congrFun (aZ4 (B:=colA m v i j (o+1) T) hon (fun a b _ hne _=>by unfold colA;by_cases e:a<o∧b=j;rw[if_pos e,if_pos oM];rw[if_neg e,if_neg oM]) (fun x _=>by unfold colA;by_cases e:x=j;rw[if_pos e,if_pos oM];rw[if_neg e,if_neg oM])) r))) (dY oM hπ)
   ·have e:o=q:=oM
    subst e;refine vS<|vLf jj<|jn<|js<|jf jj<|je ?_;exact fZN rfl (eI rfl rfl fFs rfl fFs (fun _ _=>PsLe.refl _) (fun _ _=>PsLe.refl _)) (dY oM hπ)
end
end
section
open Go.RowKit Limb Det Num
def tw(i j r:Nat):Nat:=if r=i then j else if r=j then i else r
theorem hZT(i j r:Nat):tw i j (tw i j r)=r:=by unfold tw;grind
theorem qK{i j r n:Nat}(hi:i<n)(hj:j<n)(hr:r<n):tw i j r<n:=by unfold tw;split<;>(try split)<;>omega
theorem Pm.tw{n i j:Nat}{π σ:Nat→Nat}(h:Pm n π σ)(hi:i<n)(hj:j<n):Pm n (fun r=>π (tw i j r)) (fun r=>tw i j (σ r)):=
 ⟨fun r hr=>h.lt _ (qK hi hj hr),fun r hr=>qK hi hj (h.lt' r hr),fun r hr=>by rw[h.l _ (qK hi hj hr),hZT],fun r hr=>by rw[hZT,h.r r hr]⟩
def twC(i j l:Nat)(A:Nat→Nat→Int):Nat→Nat→Int:=fun r x=>if r<l then A r (tw i j x) else A r x
def twM(i j:Nat)(A:Nat→Nat→Int):Nat→Nat→Int:=fun r x=>A (tw i j r) (tw i j x)
theorem MB.twC{n m i j l:Nat}{A:Nat→Nat→Int}(h:MB n m A)(hi:i<n)(hj:j<n):MB n m (twC i j l A):=fun r x hr hx=>by
 unfold Go.Proofs.YtfmjdlogjmofbaaGreatDoor.twC;split
 ·exact h r _ hr (qK hi hj hx)
 ·exact h r x hr hx
theorem MB.twM{n m i j:Nat}{A:Nat→Nat→Int}(h:MB n m A)(hi:i<n)(hj:j<n):MB n m (twM i j A):=fun _ _ hr hx=>h _ _ (qK hi hj hr) (qK hi hj hx)
theorem gM_tw{n i j:Nat}{σ:Nat→Nat}{A:Nat→Nat→Int}(hs:∀r,r<n→σ r<n):gM σ (twC i j n A) n=gM (fun r=>tw i j (σ r)) (twM i j A) n:=by
 funext r
 unfold gM
 by_cases hr:r<n
 ·rw[bA hr,bA hr]
  refine cA fun x hx=>?_;unfold twC twM;dsimp only;rw[if_pos (hs r hr),hZT]
 ·rw[bF hr,bF hr]
theorem hZU{A:Nat→Nat→Int}{i j l x:Nat}:(if x=j then i6 (A l i) else if x=i then i6 (A l j) else i6 (A l x))=i6 (twC i j (l+1) A l x):=by
 rw[show twC i j (l+1) A l x=A l (tw i j x) from if_pos oM]
 unfold tw
 by_cases h1:x=j
 ·by_cases h2:x=i
  ·rw[if_pos h1,if_pos h2];rw[←h1,h2]
  ·rw[if_pos h1,if_neg h2,if_pos h1]
 ·by_cases h2:x=i
  ·rw[if_neg h1,if_pos h2,if_pos h2]
  ·rw[if_neg h1,if_neg h2,if_neg h2,if_neg h1]
theorem updF_two{f:Nat→List Pd}{r:Nat}{x y:List Pd}:oJ (oJ f r x) r y=oJ f r y:=by
 funext j
 unfold oJ;split<;>rfl
theorem oZ8{P:Program}{fn:Func}{σ:St}{bx':Bx}{a b:Nat}{p q:Pd}(hf:fn.results= #[.tmp a,.tmp b])(h1:aB σ.sl a=some (.one p))(h2:aB σ.sl b=some (.one q))(hs:subBx σ.bx bx')(hk:LKeep σ.bx bx'):aZq P fn σ (.one (dK [p,q])) bx':=by
 refine⟨⟨hs,hk⟩,fun En nn w0 h0 c h β u w hi hsl=>?_⟩;obtain⟨v,hv,hp,_⟩:=hsl.slot a _ h1;obtain⟨z,hz,hq,_⟩:=hsl.slot b _ h2;exact⟨.tuple #[v,z],by rw[fJ,hf];simp[rX,hv,hz],⟨[v,z],rfl,hp,hq,trivial⟩,trivial⟩
def lsS(v:Int→Nat)(A:Nat→Nat→Int)(ab:Nat×Nat)(i j:Nat):Nat×Nat:=if v (A i j)<v (A ab.1 ab.2) then(i,j) else ab
def lsD(v:Int→Nat)(A:Nat→Nat→Int):Nat→Nat→Nat×Nat→Nat×Nat
 |0,_,ab=>ab
 |f+1,i,ab=>lsD v A f (i+1) (lsS v A ab i i)
def lsR(v:Int→Nat)(A:Nat→Nat→Int)(i:Nat):Nat→Nat→Nat×Nat→Nat×Nat
 |0,_,ab=>ab
 |f+1,j,ab=>lsR v A i f (j+1) (lsS v A ab i j)
def lsO(v:Int→Nat)(A:Nat→Nat→Int):Nat→Nat→Nat×Nat→Nat×Nat
 |0,_,ab=>ab
 |f+1,i,ab=>lsO v A f (i+1) (lsR v A i f (i+1) ab)
def vlZ(p k:Nat)(x:Int):Nat:=bZp p k x.toNat
def aP(p k n:Nat)(A:Nat→Nat→Int)(r:Nat):Nat×Nat:=lsO (vlZ p k) A (n-r) r (lsD (vlZ p k) A (n-r) r (r,r))
theorem jZi{v:Int→Nat}{A:Nat→Nat→Int}{ab:Nat×Nat}{i j n:Nat}(h:ab.1<n∧ab.2<n)(hi:i<n)(hj:j<n):(lsS v A ab i j).1<n∧(lsS v A ab i j).2<n:=by
 unfold lsS;split
 ·exact⟨hi,hj⟩
 ·exact h
section
variable(En:Ev)
theorem gZm(p m k n i j:Nat)(π σ:Nat→Nat)(A T:Nat→Nat→Int)(hP:Pm n π σ)(hn:n≤8)(hi:i<n)(hj:j<n):FnG PZ En 85 [.ptr 1750 0,.one (i6 i),.one (i6 j)] (sbc (p:Int) (m:Int) (k:Int) n π (gM σ A n) (bN T n n)) (.one (ex (.tuple #[]))) (sbc (p:Int) (m:Int) (k:Int) n (fun r=>π (tw i j r)) (gM (fun r=>tw i j (σ r)) (twM i j A) n) (bN (twC i j n T) n n)):=by
 have hπ:=hP.lt8 hn;have hπ':=(hP.tw hi hj).lt8 hn;refine bL Tryz.func85 rfl Tryz.ntmps85 rfl ?_;intro w0 h0 c;refine js<|vS<|jm jj<|vN jj<|vF jj<|jS (bQ jj jj jj uG)<|jS (cP jj CSlice.ok)<|jm jj<|jn<|jb ?_;refine WpD.loop (α:={l:Nat//l≤n}) (fun l=>⟨[(0,.ptr 1750 0),(1,.one (i6 i)),(2,.one (i6 j)),(11,.one (i6 n)),(12,.one (i6 l.1))],sbc (p:Int) (m:Int) (k:Int) n π (gM σ (twC i j l.1 A) n) (bN (twC i j l.1 T) n n)⟩) (fun l=>n-l.1) ⟨0,Nat.zero_le _⟩ ?_ ?_
 ·dsimp only
  exact Sub.mk sJ (eI rfl rfl fFs rfl fFs (fun r hr=>PsLe.of (congrFun (zK hP fun a b _ _=>by unfold twC;rw[if_neg oM]) r)) (fun r hr=>PsLe.of (congrFun (fR fun a b _ _=>by unfold twC;rw[if_neg oM]) r))) (dY oM hπ)
 rintro⟨l,hl⟩;dsimp only
 by_cases hln:l<n
 ·have hr8:=hπ l hln
  have hr8':l<8:=oM;have he:gM σ (twC i j l A) n (π l)=aS (fun x=>i6 (A l x)) n:=pF hP hln fun x _=>by unfold twC;rw[if_neg oM]
  have he':bN (twC i j l T) n n l=aS (fun x=>i6 (T l x)) n:=cZW hln fun x _=>by unfold twC;rw[if_neg oM]
  refine vS<|vLt jj<|vW jj<|vS<|jm jj<|vZ jj<|vS<|jm jj<|vN jj<|vF jj<|jS (bQ jj jj jj uG)<|jm jj<|jS (aF jj jj aO) ?_;refine jS (bB jj jj aO jj aG)<|vV jj jj<|vN jj<|vF jj<|jS (bQ jj jj jj uG)<|jm jj<|jS (aF jj jj aO) ?_;refine jS (bB jj jj aO jj aG)<|vV jj jj<|vN jj<|vF jj<|jS (bQ jj jj jj uG)<|jm jj<|jS (aF jj jj aO) ?_;refine jS (bB jj jj aO jj aG)<|jm jj<|jS (aF jj jj aO)<|jS (cF jj fFs aO aR aO) ?_;refine jm jj<|vN jj<|vF jj<|jS (bQ jj jj jj uG)<|jm jj<|jS (aF jj jj aO) ?_;refine jS (bB jj jj aO jj aG)<|jm jj<|jS (aF jj jj aO)<|jS (cF jj fFs aO aR aO) ?_;refine jS (aF jj jj aO)<|RG.NW (LT.plain jj (gW jj jj fFs aO aR aO)) jj ?_;refine jS (aF jj jj aO)<|RG.NW (LT.plain jj (gW jj jj fFs aM (nN _ _ _) oM)) jj ?_;refine jn<|jr<|jm jj<|vN jj<|vF jj<|jS (bQ jj jj jj uG)<|jm jj<|jS (aF jj jj aO) ?_;refine jS (bB jj jj aO jj aG)<|vV jj jj<|vN jj<|vF jj<|jS (bQ jj jj jj uG)<|jm jj<|jS (aF jj jj aO) ?_;refine jS (bB jj jj aO jj aG)<|vV jj jj<|vN jj<|vF jj<|jS (bQ jj jj jj uG)<|jm jj<|jS (aF jj jj aO) ?_;refine jS (bB jj jj aO jj aG)<|jm jj<|jS (aF jj jj aO)<|jS (cF jj fFs aO aR aO) ?_;refine jm jj<|vN jj<|vF jj<|jS (bQ jj jj jj uG)<|jm jj<|jS (aF jj jj aO) ?_;refine jS (bB jj jj aO jj aG)<|jm jj<|jS (aF jj jj aO)<|jS (cF jj fFs aO aR aO) ?_;refine jS (aF jj jj aO)<|RG.NW (LT.plain jj (gW jj jj fFs aO aR aO)) jj ?_;refine jS (aF jj jj aO)<|RG.NW (LT.plain jj (gW jj jj fFs aM (nN _ _ _) oM)) jj ?_;refine jn<|jr<|vAd jj wO<|jm jj<|jn ?_;refine⟨⟨l+1,oM⟩,?_,oD⟩;dsimp only;exact Sub.mk sJ (eI rfl rfl fFs rfl fFs (fun r hr=>PsLe.of (congrFun (updF_two.trans (cZk (B:=twC i j (l+1) A) hP hln (fun a b _ hne _=>by unfold twC;by_cases e:a<l;rw[if_pos e,if_pos oM];rw[if_neg e,if_neg oM]) (fun x _=>hZU))) r)) (fun r hr=>PsLe.of (congrFun (updF_two.trans (aZ4 (B:=twC i j (l+1) T) hln (fun a b _ hne _=>by unfold twC;by_cases e:a<l;rw[if_pos e,if_pos oM];rw[if_neg e,if_neg oM]) (fun x _=>hZU))) r))) (dY oM hπ)
 ·have e:l=n:=oM
  subst e;refine vS<|vLf jj<|vU jj<|jr<|jm jj<|vN jj<|vF jj<|jS (bQ jj jj jj uG)<|vV jj jj<|vN jj<|vF jj<|jS (bQ jj jj jj uG)<|vV jj jj<|vN jj<|vF jj<|jS (bQ jj jj jj uG)<|jm jj<|jS (aF jj jj aO) ?_;refine jS (bB jj jj aO jj aG)<|jm jj<|vN jj<|vF jj<|jS (bQ jj jj jj uG)<|jm jj<|jS (aF jj jj aO) ?_;refine jS (bB jj jj aO jj aG)<|jS (aF jj jj aO)<|jO (fN jj jj jj aO aG)<|jS (aF jj jj aO)<|jO (fN jj jj jj aO aG)<|jn ?_;refine fZN rfl (eI rfl (congrArg some (cA fun q hq=>?_)) fFs rfl fFs (fun r _=>PsLe.of (congrFun (gM_tw hP.lt') r)) (fun _ _=>PsLe.refl _)) (dY oM hπ');unfold owP tw;dsimp only
  by_cases h1:q=j
  ·rw[if_pos h1]
   by_cases h2:q=i
   ·rw[if_pos h2];rw[←h1,h2]
   ·rw[if_neg h2,if_pos h1]
  ·rw[if_neg h1]
   by_cases h2:q=i
   ·rw[if_pos h2,if_pos h2]
   ·rw[if_neg h2,if_neg h2,if_neg h1]
theorem pZg(p m k n r:Nat)(π σ:Nat→Nat)(A:Nat→Nat→Int)(t:Nat→List Pd)(hP:Pm n π σ)(hn:n≤8)(hr:r<n)(hp:2≤p)(hp2:p≤4294967296)(hm2:m≤2147483648)(hA:MB n m A):FnG PZ En 84 [.ptr 1750 0,.one (i6 r)] (sbc (p:Int) (m:Int) (k:Int) n π (gM σ A n) t) (.one (dK [i6 (((aP p k n A r).1:Nat):Int),i6 (((aP p k n A r).2:Nat):Int)])) (sbc (p:Int) (m:Int) (k:Int) n π (gM σ A n) t):=by
 have hπ:=hP.lt8 hn;have V:∀i j,i<n→j<n→FnG PZ En 140 [.ptr 1750 0,.one (i6 (A i j))] (sbc (p:Int) (m:Int) (k:Int) n π (gM σ A n) t) (.one (i6 ((vlZ p k (A i j):Nat):Int))) (sbc (p:Int) (m:Int) (k:Int) n π (gM σ A n) t):=fun i j hi hj=>by
  have h:=hA i j hi hj;have:=fZg En p k (A i j).toNat n (m:Int) π (gM σ A n) t hn hπ hp hp2 oM;rwa[Int.toNat_of_nonneg h.1] at this
 have he:∀i,i<n→gM σ A n (π i)=aS (fun x=>i6 (A i x)) n:=fun i hi=>pF hP hi fun x _=>rfl;unfold aP;refine bL Tryz.func84 rfl Tryz.ntmps84 rfl ?_;intro w0 h0 c;refine vS<|ja jj<|vZ jj<|vS<|vV jj jj<|ja jj<|vZ jj<|js<|vS<|jm jj<|vZ jj<|jb ?_;refine WpD.loop (α:={x:Nat×Nat×Nat//x.1≤n∧(x.2.1<n∧x.2.2<n)∧lsD (vlZ p k) A (n-r) r (r,r)=lsD (vlZ p k) A (n-x.1) x.1 x.2}) (fun x=>⟨[(0,.ptr 1750 0),(1,.one (i6 r)),(6,.one (i6 x.1.2.1)),(7,.one (i6 x.1.2.2)),(8,.one (i6 x.1.1))],sbc (p:Int) (m:Int) (k:Int) n π (gM σ A n) t⟩) (fun x=>n-x.1.1) ⟨(r,r,r),oM,⟨hr,hr⟩,rfl⟩ ?_ ?_
 ·dsimp only
  exact Sub.mk sJ (eI rfl rfl fFs rfl fFs (fun r hr=>PsLe.refl _) (fun r hr=>PsLe.refl _)) (dY oM hπ)
 rintro⟨⟨i,a,b⟩,hi,⟨ha,hb⟩,hE⟩;dsimp only at hi ha hb hE ⊢
 by_cases hin:i<n
 ·have h8:=hπ i hin
  have h8':=hπ a ha;have he1:=he i hin;have he2:=he a ha;have V1:=V i i hin hin;have V2:=V a b ha hb;obtain⟨f,hf⟩:∃f,n-i=f+1:=⟨n-i-1,oM⟩;have hf2:n-(i+1)=f:=oM;rw[hf] at hE;have hE:lsD (vlZ p k) A (n-r) r (r,r)=lsD (vlZ p k) A f (i+1) (lsS (vlZ p k) A (a,b) i i):=hE;unfold lsS at hE
  by_cases hv:vlZ p k (A i i)<vlZ p k (A a b)
  ·rw[if_pos hv] at hE
   refine js<|vS<|vV jj jj<|vN jj<|vF jj<|jS (bQ jj jj jj uG)<|jS (cP jj CSlice.ok)<|vLt jj<|jn<|jt jj<|jp<|js<|jb<|vS<|vV jj jj<|vN jj<|vF jj<|jS (bQ jj jj jj uG)<|jm jj<|jS (aF jj jj aO) ?_;refine jS (bB jj jj aO jj aG)<|jm jj<|jS (aF jj jj aO)<|jS (cF jj fFs aO aR aO) ?_;refine jS (eV 1750 1760 1001 1780 1011 V1 ⟨⟨jj,oN⟩,jj,trivial⟩ jj jj fFs jj fFs oM aM) ?_;refine vV jj jj<|vN jj<|vF jj<|jS (bQ jj jj jj uG)<|jm jj<|jS (aF jj jj aO) ?_;refine jS (bB jj jj aO jj aG)<|jm jj<|jS (aF jj jj aO)<|jS (cF jj fFs aO aR aO) ?_;refine jS (eV 1750 1760 1001 1780 1011 V2 ⟨⟨jj,oN⟩,jj,trivial⟩ jj jj fFs jj fFs oM aM) ?_;refine vLt jj<|jn<|jt jj<|jr<|vV jj jj<|ja jj<|vZ jj<|jr<|jm jj<|vAd jj wO<|vZ jj ?_;refine⟨⟨(i+1,i,i),oD,⟨hin,hin⟩,by dsimp only;rw[hf2];exact hE⟩,?_,oD⟩
   dsimp only;exact Sub.mk sJ (eI rfl rfl fFs rfl fFs (fun r hr=>PsLe.refl _) (fun r hr=>PsLe.refl _)) (dY oM hπ)
  ·rw[if_neg hv] at hE
   refine js<|vS<|vV jj jj<|vN jj<|vF jj<|jS (bQ jj jj jj uG)<|jS (cP jj CSlice.ok)<|vLt jj<|jn<|jt jj<|jp<|js<|jb<|vS<|vV jj jj<|vN jj<|vF jj<|jS (bQ jj jj jj uG)<|jm jj<|jS (aF jj jj aO) ?_;refine jS (bB jj jj aO jj aG)<|jm jj<|jS (aF jj jj aO)<|jS (cF jj fFs aO aR aO) ?_;refine jS (eV 1750 1760 1001 1780 1011 V1 ⟨⟨jj,oN⟩,jj,trivial⟩ jj jj fFs jj fFs oM aM) ?_;refine vV jj jj<|vN jj<|vF jj<|jS (bQ jj jj jj uG)<|jm jj<|jS (aF jj jj aO) ?_;refine jS (bB jj jj aO jj aG)<|jm jj<|jS (aF jj jj aO)<|jS (cF jj fFs aO aR aO) ?_;refine jS (eV 1750 1760 1001 1780 1011 V2 ⟨⟨jj,oN⟩,jj,trivial⟩ jj jj fFs jj fFs oM aM) ?_;refine vLf jj<|jn<|jf jj<|jp<|jr<|jm jj<|vAd jj wO<|vZ jj ?_;refine⟨⟨(i+1,a,b),oD,⟨ha,hb⟩,by dsimp only;rw[hf2];exact hE⟩,?_,oD⟩
   dsimp only;exact Sub.mk sJ (eI rfl rfl fFs rfl fFs (fun r hr=>PsLe.refl _) (fun r hr=>PsLe.refl _)) (dY oM hπ)
 ·rw[show n-i=0 by omega] at hE
  have hE:lsD (vlZ p k) A (n-r) r (r,r)=(a,b):=hE;rw[hE];refine js<|vS<|vV jj jj<|vN jj<|vF jj<|jS (bQ jj jj jj uG)<|jS (cP jj CSlice.ok)<|vLf jj<|jn<|jf jj<|je<|js<|vS<|jm jj<|vZ jj<|jb ?_;refine WpD.loop (α:={x:Nat×Nat×Nat//x.1≤n∧(x.2.1<n∧x.2.2<n)∧lsO (vlZ p k) A (n-r) r (a,b)=lsO (vlZ p k) A (n-x.1) x.1 x.2}) (fun x=>⟨[(0,.ptr 1750 0),(6,.one (i6 x.1.2.1)),(7,.one (i6 x.1.2.2)),(9,.one (i6 x.1.1))],sbc (p:Int) (m:Int) (k:Int) n π (gM σ A n) t⟩) (fun x=>n-x.1.1) ⟨(r,a,b),oD,⟨ha,hb⟩,rfl⟩ ?_ ?_
  ·dsimp only
   exact Sub.mk sJ (eI rfl rfl fFs rfl fFs (fun r hr=>PsLe.refl _) (fun r hr=>PsLe.refl _)) (dY oM hπ)
  rintro⟨⟨i',a',b'⟩,hi',⟨ha',hb'⟩,hE'⟩;dsimp only at hi' ha' hb' hE' ⊢
  by_cases hin':i'<n
  ·obtain⟨f,hf⟩:∃f,n-i'=f+1:=⟨n-i'-1,oM⟩
   have hf2:n-(i'+1)=f:=oM;rw[hf] at hE';have hE':lsO (vlZ p k) A (n-r) r (a,b)=lsO (vlZ p k) A f (i'+1) (lsR (vlZ p k) A i' f (i'+1) (a',b')):=hE';have e0:IntKind.i64.wrap ((i':Int)+1)=((i'+1:Nat):Int):=by rw[w64 oM oM];rfl
   refine js<|vS<|vV jj jj<|vN jj<|vF jj<|jS (bQ jj jj jj uG)<|jS (cP jj CSlice.ok)<|vLt jj<|jn<|jt jj<|jp<|js<|jb<|vS<|jm jj<|vAd jj e0<|vZ jj<|jb ?_;refine WpD.loop (α:={x:Nat×Nat×Nat//x.1≤n∧(x.2.1<n∧x.2.2<n)∧lsR (vlZ p k) A i' f (i'+1) (a',b')=lsR (vlZ p k) A i' (n-x.1) x.1 x.2}) (fun x=>⟨[(0,.ptr 1750 0),(6,.one (i6 x.1.2.1)),(7,.one (i6 x.1.2.2)),(9,.one (i6 i')),(10,.one (i6 x.1.1))],sbc (p:Int) (m:Int) (k:Int) n π (gM σ A n) t⟩) (fun x=>n-x.1.1) ⟨(i'+1,a',b'),oD,⟨ha',hb'⟩,by dsimp only;rw[hf2]⟩ ?_ ?_
   ·dsimp only
    exact Sub.mk sJ (eI rfl rfl fFs rfl fFs (fun r hr=>PsLe.refl _) (fun r hr=>PsLe.refl _)) (dY oM hπ)
   rintro⟨⟨j,c',d'⟩,hj,⟨hc',hd'⟩,hF⟩;dsimp only at hj hc' hd' hF ⊢
   by_cases hjn:j<n
   ·have h8:=hπ i' hin'
    have h8':=hπ c' hc';have he1:=he i' hin';have he2:=he c' hc';have V1:=V i' j hin' hjn;have V2:=V c' d' hc' hd';obtain⟨g,hg⟩:∃g,n-j=g+1:=⟨n-j-1,oM⟩;have hg2:n-(j+1)=g:=oM;rw[hg] at hF;have hF:lsR (vlZ p k) A i' f (i'+1) (a',b')=lsR (vlZ p k) A i' g (j+1) (lsS (vlZ p k) A (c',d') i' j):=hF;unfold lsS at hF
    by_cases hv:vlZ p k (A i' j)<vlZ p k (A c' d')
    ·rw[if_pos hv] at hF
     refine js<|vS<|vV jj jj<|vN jj<|vF jj<|jS (bQ jj jj jj uG)<|jS (cP jj CSlice.ok)<|vLt jj<|jn<|jt jj<|jp<|js<|jb<|vS<|vV jj jj<|vN jj<|vF jj<|jS (bQ jj jj jj uG)<|jm jj<|jS (aF jj jj aO) ?_;refine jS (bB jj jj aO jj aG)<|jm jj<|jS (aF jj jj aO)<|jS (cF jj fFs aO aR aO) ?_;refine jS (eV 1750 1760 1001 1780 1011 V1 ⟨⟨jj,oN⟩,jj,trivial⟩ jj jj fFs jj fFs oM aM) ?_;refine vV jj jj<|vN jj<|vF jj<|jS (bQ jj jj jj uG)<|jm jj<|jS (aF jj jj aO) ?_;refine jS (bB jj jj aO jj aG)<|jm jj<|jS (aF jj jj aO)<|jS (cF jj fFs aO aR aO) ?_;refine jS (eV 1750 1760 1001 1780 1011 V2 ⟨⟨jj,oN⟩,jj,trivial⟩ jj jj fFs jj fFs oM aM) ?_;refine vLt jj<|jn<|jt jj<|jr<|vV jj jj<|ja jj<|vZ jj<|jr<|jm jj<|vAd jj wO<|vZ jj ?_;refine⟨⟨(j+1,i',j),oD,⟨hin',hjn⟩,by dsimp only;rw[hg2];exact hF⟩,?_,oD⟩
     dsimp only;exact Sub.mk sJ (eI rfl rfl fFs rfl fFs (fun r hr=>PsLe.refl _) (fun r hr=>PsLe.refl _)) (dY oM hπ)
    ·rw[if_neg hv] at hF
     refine js<|vS<|vV jj jj<|vN jj<|vF jj<|jS (bQ jj jj jj uG)<|jS (cP jj CSlice.ok)<|vLt jj<|jn<|jt jj<|jp<|js<|jb<|vS<|vV jj jj<|vN jj<|vF jj<|jS (bQ jj jj jj uG)<|jm jj<|jS (aF jj jj aO) ?_;refine jS (bB jj jj aO jj aG)<|jm jj<|jS (aF jj jj aO)<|jS (cF jj fFs aO aR aO) ?_;refine jS (eV 1750 1760 1001 1780 1011 V1 ⟨⟨jj,oN⟩,jj,trivial⟩ jj jj fFs jj fFs oM aM) ?_;refine vV jj jj<|vN jj<|vF jj<|jS (bQ jj jj jj uG)<|jm jj<|jS (aF jj jj aO) ?_;refine jS (bB jj jj aO jj aG)<|jm jj<|jS (aF jj jj aO)<|jS (cF jj fFs aO aR aO) ?_;refine jS (eV 1750 1760 1001 1780 1011 V2 ⟨⟨jj,oN⟩,jj,trivial⟩ jj jj fFs jj fFs oM aM) ?_;refine vLf jj<|jn<|jf jj<|jp<|jr<|jm jj<|vAd jj wO<|vZ jj ?_;refine⟨⟨(j+1,c',d'),oD,⟨hc',hd'⟩,by dsimp only;rw[hg2];exact hF⟩,?_,oD⟩
     dsimp only;exact Sub.mk sJ (eI rfl rfl fFs rfl fFs (fun r hr=>PsLe.refl _) (fun r hr=>PsLe.refl _)) (dY oM hπ)
   ·rw[show n-j=0 by omega] at hF
    have hF:lsR (vlZ p k) A i' f (i'+1) (a',b')=(c',d'):=hF;rw[hF] at hE';refine js<|vS<|vV jj jj<|vN jj<|vF jj<|jS (bQ jj jj jj uG)<|jS (cP jj CSlice.ok)<|vLf jj<|jn<|jf jj<|je<|jr<|jm jj<|vAd jj wO<|vZ jj ?_;refine⟨⟨(i'+1,c',d'),oD,⟨hc',hd'⟩,by dsimp only;rw[hf2];exact hE'⟩,?_,oD⟩
    dsimp only;exact Sub.mk sJ (eI rfl rfl fFs rfl fFs (fun r hr=>PsLe.refl _) (fun r hr=>PsLe.refl _)) (dY oM hπ)
  ·rw[show n-i'=0 by omega] at hE'
   have hE':lsO (vlZ p k) A (n-r) r (a,b)=(a',b'):=hE';rw[hE'];refine js<|vS<|vV jj jj<|vN jj<|vF jj<|jS (bQ jj jj jj uG)<|jS (cP jj CSlice.ok)<|vLf jj<|jn<|jf jj<|je<|vS<|vV jj jj<|ja jj<|vZ jj<|ji ?_;exact oZ8 rfl rfl rfl (eI rfl rfl fFs rfl fFs (fun _ _=>PsLe.refl _) (fun _ _=>PsLe.refl _)) (dY oM hπ)
end
end
section
open Go.RowKit Limb Det Num
def qX(m r q:Nat)(u:Int)(j:Nat)(A:Nat→Nat→Int):Int:= -((A r j/(q:Int)*u)%((m/q:Nat):Int))
def yJ(m n r q:Nat)(u:Int):Nat→Nat→(Nat→Nat→Int)×(Nat→Nat→Int)→(Nat→Nat→Int)×(Nat→Nat→Int)
 |0,_,x=>x
 |f+1,j,x=>yJ m n r q u f (j+1) (addM m (qX m r q u j x.1) r j n x.1,colA m (qX m r q u j x.1) r j n x.2)
def pvQ(p k:Nat)(A:Nat→Nat→Int)(r:Nat):Nat:=p^vlZ p k (A r r)
def pvU(p k m:Nat)(A:Nat→Nat→Int)(r:Nat):Int:=rcp ((A r r).toNat/pvQ p k A r) (m/pvQ p k A r)
def yI(p k m n r:Nat)(x:(Nat→Nat→Int)×(Nat→Nat→Int)):(Nat→Nat→Int)×(Nat→Nat→Int):=yJ m n r (pvQ p k x.1 r) (pvU p k m x.1 r) (n-(r+1)) (r+1) x
def uT(e:Nat)(a:Int):List Pd:=[i6 e,i6 1,i6 a,i6 0,i6 0]
def oneB(p k m n r:Nat)(x:(Nat→Nat→Int)×(Nat→Nat→Int)):List Pd:=uT (vlZ p k (x.1 r r)) ((yI p k m n r x).1 r r/(pvQ p k x.1 r:Int))
theorem eZz{p k m n:Nat}{A:Nat→Nat→Int}(hp:2≤p)(hm:m=p^k)(hA:MB n m A){r x:Nat}(hr:r<n)(hx:x<n):vlZ p k (A r x)≤k:=by
 unfold vlZ bZp;split
 ·exact Nat.le_refl k
 ·rename_i h
  have:=hA r x hr hx;exact Nat.le_of_lt (gZx hp h (by rw[←hm];omega))
theorem oZG{p k m n:Nat}{A:Nat→Nat→Int}(hp:2≤p)(hm:m=p^k)(hA:MB n m A){r:Nat}(hr:r<n):1≤pvQ p k A r∧pvQ p k A r≤m:=by
 unfold pvQ;refine⟨Nat.pow_pos oM,?_⟩;rw[hm];exact Nat.pow_le_pow_right oM (eZz hp hm hA hr hr)
theorem cZL{a:Int}{q:Nat}(h:0≤a):a.tdiv (q:Int)=a/(q:Int):=Int.tdiv_eq_ediv_of_nonneg h
section
variable(En:Ev)
theorem lZX(p m k n r:Nat)(π σ:Nat→Nat)(A T:Nat→Nat→Int)(hP:Pm n π σ)(hn:n≤8)(hr:r<n)(hp:2≤p)(hp2:p≤4294967296)(hm:m=p^k)(hm2:m≤2147483648)(hA:MB n m A)(hT:MB n m T):FnG PZ En 88 [.ptr 1750 0,.one (i6 r)] (sbc (p:Int) (m:Int) (k:Int) n π (gM σ A n) (bN T n n)) (.one (cD (oneB p k m n r (A,T)))) (sbc (p:Int) (m:Int) (k:Int) n π (gM σ (yI p k m n r (A,T)).1 n) (bN (yI p k m n r (A,T)).2 n n)):=by
 have hπ:=hP.lt8 hn;have hm1:1≤m:=by rw[hm];exact Nat.pow_pos oM
 have h8:=hπ r hr;have hrr:=hA r r hr hr;obtain⟨hq1,hq2⟩:=oZG hp hm hA hr;have hmq:1≤m/pvQ p k A r:=Nat.div_pos hq2 hq1;have hmq2:m/pvQ p k A r≤m:=Nat.div_le_self _ _;have hk:vlZ p k (A r r)≤k:=eZz hp hm hA hr hr;have hkm:k<m:=by rw[hm];exact Nat.lt_pow_self hp
 have C1:=fZg En p k (A r r).toNat n (m:Int) π (gM σ A n) (bN T n n) hn hπ hp hp2 oM;rw[Int.toNat_of_nonneg hrr.1] at C1;have C2:=fZh En p (vlZ p k (A r r)) oM (Nat.le_trans hq2 oM) oM;have hdl:(A r r).toNat/pvQ p k A r≤(A r r).toNat:=Nat.div_le_self _ _;have C3:=vG En ((A r r).toNat/pvQ p k A r) (m/pvQ p k A r) hmq oM oM;have hub:=iZE (a:=(A r r).toNat/pvQ p k A r) hmq;unfold oneB yI;dsimp only;have hU:rcp ((A r r).toNat/pvQ p k A r) (m/pvQ p k A r)=pvU p k m A r:=rfl;rw[hU] at C3 hub;have hQ:p^vlZ p k (A r r)=pvQ p k A r:=rfl;have hV:bZp p k (A r r).toNat=vlZ p k (A r r):=rfl;rw[hQ] at C2;rw[hV] at C1;have e1:IntKind.i64.wrap ((A r r).tdiv (pvQ p k A r:Int))=(((A r r).toNat/pvQ p k A r:Nat):Int):=by
  rw[show A r r=(((A r r).toNat:Nat):Int) by omega,oR,Int.toNat_natCast]
  generalize(A r r).toNat/pvQ p k A r=z at*;exact w64 oM oM
 have e2:IntKind.i64.wrap ((m:Int).tdiv (pvQ p k A r:Int))=((m/pvQ p k A r:Nat):Int):=by
  rw[oR];generalize m/pvQ p k A r=z at*;exact w64 oM oM
 have e3:=wS r oM;generalize vlZ p k (A r r)=e at*;generalize pvU p k m A r=u at*;generalize pvQ p k A r=q at*;have hq0:(q:Int)≠0:=oM;have hmq0:((m/q:Nat):Int)≠0:=by generalize m/q=z at*;omega
 have he:gM σ A n (π r)=aS (fun x=>i6 (A r x)) n:=pF hP hr fun x _=>rfl;refine bL Tryz.func88 rfl Tryz.ntmps88 rfl ?_;intro w0 h0 c;refine vS<|vA jj<|vJ<|vV jj jj<|vN jj<|vF jj<|jS (bQ jj jj jj uG)<|jm jj<|jS (aF jj jj aO) ?_;refine jS (bB jj jj aO jj aG)<|jm jj<|jS (aF jj jj aO)<|jS (cF jj fFs aO aR aO) ?_;refine jS (eV 1750 1760 1001 1780 1011 C1 ⟨⟨jj,oN⟩,jj,trivial⟩ jj jj fFs jj fFs oM aM) ?_;refine vZ jj<|vS<|jm jj<|vN jj<|vF jj<|jS (gC jj jj jj)<|jm jj<|vC C2 tB<|vZ jj<|vS<|jm jj<|vN jj<|vF jj<|jS (bQ jj jj jj uG)<|jm jj<|jS (aF jj jj aO) ?_;refine jS (bB jj jj aO jj aG)<|jm jj<|jS (aF jj jj aO)<|jS (cF jj fFs aO aR aO) ?_;refine jm jj<|jS (bQu jj jj e1)<|jm jj<|vN jj<|vF jj<|jS (gC jj jj jj)<|jm jj<|jS (bQu jj jj e2)<|vC C3 tB<|jm jj<|vE jj<|vE jj<|ja jj<|vZ jj<|js<|vS<|jm jj<|vAd jj e3<|vZ jj<|jb ?_;refine WpD.loop (α:={x:Nat×(Nat→Nat→Int)×(Nat→Nat→Int)//x.1≤n∧r<x.1∧(MB n m x.2.1∧MB n m x.2.2)∧yJ m n r q u (n-(r+1)) (r+1) (A,T)=yJ m n r q u (n-x.1) x.1 x.2}) (fun x=>⟨[(0,.ptr 1750 0),(1,.one (i6 r)),(4,.ptr 4 0),(5,.one (i6 e)),(6,.one (i6 q)),(7,.one (i6 u)),(9,.one (i6 x.1.1))],(4,[i6 0,i6 0,i6 0,i6 0,i6 0])::sbc (p:Int) (m:Int) (k:Int) n π (gM σ x.1.2.1 n) (bN x.1.2.2 n n)⟩) (fun x=>n-x.1.1) ⟨(r+1,A,T),oD,oD,⟨hA,hT⟩,rfl⟩ ?_ ?_
 ·dsimp only
  exact Sub.mk sJ ⟨.inl pQ,eI rfl rfl fFs rfl fFs (fun _ _=>PsLe.refl _) (fun _ _=>PsLe.refl _)⟩ (sL oM hπ)
 rintro⟨⟨j,B,S⟩,hj,hrj,⟨hB,hS⟩,hE⟩;dsimp only at hj hrj hB hS hE ⊢;have heB:gM σ B n (π r)=aS (fun x=>i6 (B r x)) n:=pF hP hr fun x _=>rfl
 by_cases hjn:j<n
 ·obtain⟨f,hf⟩:∃f,n-j=f+1:=⟨n-j-1,oM⟩
  have hf2:n-(j+1)=f:=oM;rw[hf,yJ] at hE;dsimp only at hE;have hbj:=hB r j hr hjn;have hbd:0≤B r j/(q:Int)∧B r j/(q:Int)≤B r j:=⟨Int.ediv_nonneg hbj.1 oM,Int.ediv_le_self _ hbj.1⟩;have g1:IntKind.i64.wrap ((B r j).tdiv (q:Int))=B r j/(q:Int):=by
   rw[cZL hbj.1];exact w64 oM oM
  have hmul:0≤B r j/(q:Int)*u∧B r j/(q:Int)*u≤2147483648*2147483648:=⟨Int.mul_nonneg hbd.1 hub.1,Int.mul_le_mul oM (by generalize m/q=z at*;omega) hub.1 oM⟩
  have g2:IntKind.i64.wrap (B r j/(q:Int)*u)=B r j/(q:Int)*u:=w64 oM oM;have g3:(B r j/(q:Int)*u).tmod ((m/q:Nat):Int)=(B r j/(q:Int)*u)%((m/q:Nat):Int):=Int.tmod_eq_emod_of_nonneg hmul.1;have hmd:0≤(B r j/(q:Int)*u)%((m/q:Nat):Int)∧(B r j/(q:Int)*u)%((m/q:Nat):Int)<((m/q:Nat):Int):=⟨Int.emod_nonneg _ hmq0,Int.emod_lt_of_pos _ (by generalize m/q=z at*;omega)⟩
  have hcb:(qX m r q u j B).natAbs≤2147483648∧IntKind.i64.wrap (-((B r j/(q:Int)*u)%((m/q:Nat):Int)))=qX m r q u j B:=by
   unfold qX;generalize(B r j/(q:Int)*u)%((m/q:Nat):Int)=z at*;generalize m/q=z2 at*;exact⟨oM,w64 oM oM⟩
  have CA:=mZc En p m k n r j (qX m r q u j B) π σ B S hP hn hr hjn oM hm1 hm2 hcb.1 hB hS;refine js<|vS<|vV jj jj<|vN jj<|vF jj<|jS (bQ jj jj jj uG)<|jS (cP jj CSlice.ok)<|vLt jj<|jn<|jt jj<|jp<|js<|jb<|jr<|vV jj jj<|vN jj<|vF jj<|jS (bQ jj jj jj uG)<|jm jj<|jS (aF jj jj aO) ?_;refine jS (bB jj jj aO jj aG)<|jm jj<|jS (aF jj jj aO)<|jS (cF jj fFs aO aR aO) ?_;refine jm jj<|jS (bQu jj jj g1)<|jm jj<|vMu jj g2<|jm jj<|vN jj<|vF jj<|jS (gC jj jj jj)<|jm jj<|jS (bQu jj jj e2)<|jS (bRe jj jj g3)<|jS (gN jj (fun w=>fO w _ _) (dV hcb.2))<|vV jj jj<|RG.SW (LT.plain jj (fW 1750 1760 1001 1780 1011 CA ⟨⟨jj,oN⟩,jj,jj,jj,trivial⟩ jj jj fFs jj fFs oM aM aM)) jj ?_;refine jn<|jr<|jm jj<|vAd jj wO<|vZ jj ?_;refine⟨⟨(j+1,addM m (qX m r q u j B) r j n B,colA m (qX m r q u j B) r j n S),oD,oD,⟨hB.addM hm1 _ _ _,hS.colA hm1 _ _ _ _⟩,by dsimp only;rw[hf2];exact hE⟩,?_,oD⟩
  dsimp only;exact Sub.mk sJ ⟨.inl pQ,eI rfl rfl fFs rfl fFs (fun _ _=>PsLe.refl _) (fun _ _=>PsLe.refl _)⟩ (sL oM hπ)
 ·have hjn2:j=n:=oM
  subst hjn2;rw[Nat.sub_self] at hE;have hE:yJ m j r q u (j-(r+1)) (r+1) (A,T)=(B,S):=hE;rw[hE];have hbj:=hB r r hr hr;have hbd:0≤B r r/(q:Int)∧B r r/(q:Int)≤B r r:=⟨Int.ediv_nonneg hbj.1 oM,Int.ediv_le_self _ hbj.1⟩;have g1:IntKind.i64.wrap ((B r r).tdiv (q:Int))=B r r/(q:Int):=by
   rw[cZL hbj.1];exact w64 oM oM
  refine js<|vS<|vV jj jj<|vN jj<|vF jj<|jS (bQ jj jj jj uG)<|jS (cP jj CSlice.ok)<|vLf jj<|jn<|jf jj<|je<|vS<|vV jj jj<|vN jj<|vF jj<|jS (bQ jj jj jj uG)<|jm jj<|jS (aF jj jj aO) ?_;refine jS (bB jj jj aO jj aG)<|jm jj<|jS (aF jj jj aO)<|jS (cF jj fFs aO aR aO) ?_;refine jm jj<|jS (bQu jj jj g1)<|jS (aU (ps:=[(_,_),(_,_),(_,_)]) ⟨jj,Part.c jj,jj,Part.c jj,jj,Part.c jj,trivial⟩ jj)<|vP jj<|jn<|ji ?_;exact nZ4 rfl rfl rfl (eI rfl rfl fFs rfl fFs (fun _ _=>PsLe.refl _) (fun _ _=>PsLe.refl _)) (dY oM hπ)
end
end
section
open Go.RowKit Limb Det Num
def tvQ(p k:Nat)(A:Nat→Nat→Int)(r:Nat):Nat:=p^vlZ p k (A r (r+1))
def tvU(mq:Nat)(a b c:Int):Int:=rcp ((a*c%(mq:Int)-b*b%(mq:Int))%(mq:Int)).toNat mq
def twF(mq:Nat)(u s t x y:Int):Int:=(s*x%(mq:Int)-t*y%(mq:Int))%(mq:Int)*u%(mq:Int)
def twS(m mq n r j q:Nat)(a b c u:Int)(x:(Nat→Nat→Int)×(Nat→Nat→Int)):(Nat→Nat→Int)×(Nat→Nat→Int):=
 (addM m (-twF mq u a b (x.1 (r+1) j/(q:Int)) (x.1 r j/(q:Int))) (r+1) j n (addM m (-twF mq u c b (x.1 r j/(q:Int)) (x.1 (r+1) j/(q:Int))) r j n x.1),
  colA m (-twF mq u a b (x.1 (r+1) j/(q:Int)) (x.1 r j/(q:Int))) (r+1) j n (colA m (-twF mq u c b (x.1 r j/(q:Int)) (x.1 (r+1) j/(q:Int))) r j n x.2))
def twL(m mq n r q:Nat)(a b c u:Int):Nat→Nat→(Nat→Nat→Int)×(Nat→Nat→Int)→(Nat→Nat→Int)×(Nat→Nat→Int)
 |0,_,x=>x
 |f+1,j,x=>twL m mq n r q a b c u f (j+1) (twS m mq n r j q a b c u x)
def tvA(p k:Nat)(A:Nat→Nat→Int)(r i j:Nat):Int:=A i j/(tvQ p k A r:Int)
def gZQ(p k m n r:Nat)(x:(Nat→Nat→Int)×(Nat→Nat→Int)):(Nat→Nat→Int)×(Nat→Nat→Int):=
 twL m (m/tvQ p k x.1 r) n r (tvQ p k x.1 r) (tvA p k x.1 r r r) (tvA p k x.1 r r (r+1)) (tvA p k x.1 r (r+1) (r+1)) (tvU (m/tvQ p k x.1 r) (tvA p k x.1 r r r) (tvA p k x.1 r r (r+1)) (tvA p k x.1 r (r+1) (r+1))) (n-(r+2)) (r+2) x
def twoB(p k r:Nat)(A:Nat→Nat→Int):List Pd:=[i6 ((vlZ p k (A r (r+1)):Nat):Int),i6 2,i6 (tvA p k A r r r),i6 (tvA p k A r r (r+1)),i6 (tvA p k A r (r+1) (r+1))]
theorem eZ3{mq:Nat}(h:1≤mq)(u s t x y:Int):0≤twF mq u s t x y∧twF mq u s t x y<mq:=⟨Int.emod_nonneg _ oM,Int.emod_lt_of_pos _ oM⟩
theorem MB.div{n m q:Nat}{A:Nat→Nat→Int}(h:MB n m A){i j:Nat}(hi:i<n)(hj:j<n):0≤A i j/(q:Int)∧A i j/(q:Int)<m:=by
 have h1:=h i j hi hj;exact⟨Int.ediv_nonneg h1.1 oM,by have:=Int.ediv_le_self (q:Int) h1.1;omega⟩
theorem dZu{x y:Int}(hx:0≤x∧x≤2147483648)(hy:0≤y∧y≤2147483648):0≤x*y∧x*y≤4611686018427387904:=⟨Int.mul_nonneg hx.1 hy.1,Int.mul_le_mul hx.2 hy.2 hy.1 oM⟩
theorem xI{mq:Nat}{u s t x y:Int}(h:1≤mq)(hm:mq≤2147483648)(hu:0≤u∧u≤2147483648)(hs:0≤s∧s≤2147483648)(ht:0≤t∧t≤2147483648)(hx:0≤x∧x≤2147483648)(hy:0≤y∧y≤2147483648):
  (IntKind.i64.wrap (s*x)=s*x∧(s*x).tmod (mq:Int)=s*x%(mq:Int))∧(IntKind.i64.wrap (t*y)=t*y∧(t*y).tmod (mq:Int)=t*y%(mq:Int))∧IntKind.i64.wrap (s*x%(mq:Int)-t*y%(mq:Int))=s*x%(mq:Int)-t*y%(mq:Int)∧
  IntKind.i64.wrap ((s*x%(mq:Int)-t*y%(mq:Int))%(mq:Int)*u)=(s*x%(mq:Int)-t*y%(mq:Int))%(mq:Int)*u∧((s*x%(mq:Int)-t*y%(mq:Int))%(mq:Int)*u).tmod (mq:Int)=twF mq u s t x y∧IntKind.i64.wrap (-twF mq u s t x y)= -twF mq u s t x y:=by
 have a1:=dZu hs hx;have a2:=dZu ht hy;have a5:=eZ3 h u s t x y;have g1:(s*x).tmod (mq:Int)=s*x%(mq:Int):=Int.tmod_eq_emod_of_nonneg a1.1;have g2:(t*y).tmod (mq:Int)=t*y%(mq:Int):=Int.tmod_eq_emod_of_nonneg a2.1;have g0:(mq:Int)≠0:=oM;have r1:=Int.emod_nonneg (s*x) g0;have r2:=Int.emod_nonneg (t*y) g0;have r3:=Int.emod_lt_of_pos (s*x) (show(0:Int)<mq by omega)
 have r4:=Int.emod_lt_of_pos (t*y) (show(0:Int)<mq by omega)
 have a4:=dZu (x:=(s*x%(mq:Int)-t*y%(mq:Int))%(mq:Int)) (y:=u) ⟨Int.emod_nonneg _ g0,by have:=Int.emod_lt_of_pos (s*x%(mq:Int)-t*y%(mq:Int)) (show(0:Int)<mq by omega);omega⟩ hu
 exact⟨⟨w64 oM oM,g1⟩,⟨w64 oM oM,g2⟩,w64 oM oM,w64 oM oM,Int.tmod_eq_emod_of_nonneg a4.1,w64 oM oM⟩
instance kb86:CBody PZ 86:=cB Tryz.func86
section
variable(En:Ev)
theorem htwo(p m k n r:Nat)(π σ:Nat→Nat)(A T:Nat→Nat→Int)(hP:Pm n π σ)(hn:n≤8)(hr1:r+1<n)(hp:2≤p)(hp2:p≤4294967296)(hm:m=p^k)(hm2:m≤2147483648)(hA:MB n m A)(hT:MB n m T):FnG PZ En 86 [.ptr 1750 0,.one (i6 r)] (sbc (p:Int) (m:Int) (k:Int) n π (gM σ A n) (bN T n n)) (.one (cD (twoB p k r A))) (sbc (p:Int) (m:Int) (k:Int) n π (gM σ (gZQ p k m n r (A,T)).1 n) (bN (gZQ p k m n r (A,T)).2 n n)):=by
 have hr:r<n:=oM;have hπ:=hP.lt8 hn;have hm1:1≤m:=by rw[hm];exact Nat.pow_pos oM
 have h8:=hπ r hr;have h9:=hπ (r+1) hr1;have hrr:=hA r (r+1) hr hr1;have hk:vlZ p k (A r (r+1))≤k:=eZz hp hm hA hr hr1;have hq1:1≤tvQ p k A r:=Nat.pow_pos oM;have hq2:tvQ p k A r≤m:=by rw[hm];exact Nat.pow_le_pow_right oM hk
 have hmq:1≤m/tvQ p k A r:=Nat.div_pos hq2 hq1;have hmq2:m/tvQ p k A r≤m:=Nat.div_le_self _ _;have hkm:k<m:=by rw[hm];exact Nat.lt_pow_self hp
 have C1:=fZg En p k (A r (r+1)).toNat n (m:Int) π (gM σ A n) (bN T n n) hn hπ hp hp2 oM;rw[Int.toNat_of_nonneg hrr.1] at C1;have C2:=fZh En p (vlZ p k (A r (r+1))) oM (Nat.le_trans hq2 oM) oM;have hQ:p^vlZ p k (A r (r+1))=tvQ p k A r:=rfl;have hV:bZp p k (A r (r+1)).toNat=vlZ p k (A r (r+1)):=rfl;rw[hQ] at C2;rw[hV] at C1;have ba:0≤tvA p k A r r r∧tvA p k A r r r<m:=hA.div hr hr;have bb:0≤tvA p k A r r (r+1)∧tvA p k A r r (r+1)<m:=hA.div hr hr1;have bc:0≤tvA p k A r (r+1) (r+1)∧tvA p k A r (r+1) (r+1)<m:=hA.div hr1 hr1;have eA:∀i j,i<n→j<n→IntKind.i64.wrap ((A i j).tdiv (tvQ p k A r:Int))=tvA p k A r i j:=fun i j hi hj=>by
  rw[cZL (hA i j hi hj).1];have:=hA.div (q:=tvQ p k A r) hi hj;exact w64 oM oM
 have ea:=eA r r hr hr;have eb:=eA r (r+1) hr hr1;have ec:=eA (r+1) (r+1) hr1 hr1;have e2:IntKind.i64.wrap ((m:Int).tdiv (tvQ p k A r:Int))=((m/tvQ p k A r:Nat):Int):=by
  rw[oR];generalize m/tvQ p k A r=z at*;exact w64 oM oM
 have e3:=wS r oM;have e4:IntKind.i64.wrap ((r:Int)+2)=((r+2:Nat):Int):=by rw[w64 oM oM];rfl
 unfold twoB gZQ;dsimp only;clear eA hQ hV;generalize tvA p k A r r r=a at*;generalize tvA p k A r r (r+1)=b at*;generalize tvA p k A r (r+1) (r+1)=cc at*;generalize vlZ p k (A r (r+1))=e at*;generalize tvQ p k A r=q at*;have hq0:(q:Int)≠0:=oM;generalize hmqe:m/q=mq at*;have hmq0:(mq:Int)≠0:=oM;obtain⟨⟨s1,s2⟩,⟨s3,s4⟩,s5,_⟩:=xI (mq:=mq) (u:=0) (s:=a) (t:=b) (x:=cc) (y:=b) hmq oM oM oM oM oM oM;have C3:=aZo En (a*cc%(mq:Int)-b*b%(mq:Int)) (mq:Int) oM oM;have hz:=Int.emod_nonneg (a*cc%(mq:Int)-b*b%(mq:Int)) hmq0;have hz2:=Int.emod_lt_of_pos (a*cc%(mq:Int)-b*b%(mq:Int)) (show(0:Int)<mq by omega)
 have hU:tvU mq a b cc=rcp ((a*cc%(mq:Int)-b*b%(mq:Int))%(mq:Int)).toNat mq:=rfl;generalize(a*cc%(mq:Int)-b*b%(mq:Int))%(mq:Int)=zz at*;obtain⟨zt,rfl⟩:=Int.eq_ofNat_of_zero_le hz;rw[Int.toNat_natCast] at hU;have C4:=vG En zt mq hmq oM oM;have hub:=iZE (a:=zt) hmq;rw[←hU] at C4 hub;generalize tvU mq a b cc=u at*;have he:gM σ A n (π r)=aS (fun x=>i6 (A r x)) n:=pF hP hr fun x _=>rfl;have he':gM σ A n (π (r+1))=aS (fun x=>i6 (A (r+1) x)) n:=pF hP hr1 fun x _=>rfl;refine bL Tryz.func86 rfl Tryz.ntmps86 rfl ?_;intro w0 h0 c;refine vS<|vA jj<|vJ<|vV jj jj<|vN jj<|vF jj<|jS (bQ jj jj jj uG)<|jm jj<|jS (aF jj jj aO) ?_;refine jS (bB jj jj aO jj aG)<|jm jj<|vAd jj e3<|jS (aF jj jj aO)<|jS (cF jj fFs aO aR aO) ?_;refine jS (eV 1750 1760 1001 1780 1011 C1 ⟨⟨jj,oN⟩,jj,trivial⟩ jj jj fFs jj fFs oM aM) ?_;refine vZ jj<|vS<|jm jj<|vN jj<|vF jj<|jS (gC jj jj jj)<|jm jj<|vC C2 tB<|vZ jj<|vS<|jm jj<|vN jj<|vF jj<|jS (gC jj jj jj)<|jm jj<|jS (bQu jj jj e2)<|vZ jj<|vS<|jm jj<|vN jj<|vF jj<|jS (bQ jj jj jj uG)<|jm jj<|jS (aF jj jj aO) ?_;refine jS (bB jj jj aO jj aG)<|jm jj<|jS (aF jj jj aO)<|jS (cF jj fFs aO aR aO) ?_;refine jm jj<|jS (bQu jj jj ea)<|jm jj<|vN jj<|vF jj<|jS (bQ jj jj jj uG)<|jm jj<|jS (aF jj jj aO) ?_;refine jS (bB jj jj aO jj aG)<|jm jj<|vAd jj e3<|jS (aF jj jj aO)<|jS (cF jj fFs aO aR aO) ?_;refine jm jj<|jS (bQu jj jj eb)<|jm jj<|vN jj<|vF jj<|jS (bQ jj jj jj uG)<|jm jj<|vAd jj e3<|jS (aF jj jj aO) ?_;refine jS (bB jj jj aO jj aG)<|jm jj<|vAd jj e3<|jS (aF jj jj aO)<|jS (cF jj fFs aO aR aO) ?_;refine jm jj<|jS (bQu jj jj ec)<|ja jj<|ja jj<|vZ jj<|vS<|vV jj jj<|vMu jj s1<|jm jj<|jS (bRe jj jj s2)<|vV jj jj<|vMu jj s3<|jm jj<|jS (bRe jj jj s4)<|vSu jj s5<|jm jj<|vC C3 tB<|jm jj<|vC C4 tB<|jm jj<|vE jj<|vE jj<|ja jj<|vZ jj<|js<|vS<|jm jj<|vAd jj e4<|vZ jj<|jb ?_;refine WpD.loop (α:={x:Nat×(Nat→Nat→Int)×(Nat→Nat→Int)//x.1≤n∧r+1<x.1∧(MB n m x.2.1∧MB n m x.2.2)∧twL m mq n r q a b cc u (n-(r+2)) (r+2) (A,T)=twL m mq n r q a b cc u (n-x.1) x.1 x.2}) (fun x=>⟨[(0,.ptr 1750 0),(1,.one (i6 r)),(4,.ptr 4 0),(5,.one (i6 e)),(6,.one (i6 q)),(7,.one (i6 mq)),(8,.one (i6 a)),(9,.one (i6 b)),(10,.one (i6 cc)),(11,.one (i6 u)),(13,.one (i6 x.1.1))],(4,[i6 0,i6 0,i6 0,i6 0,i6 0])::sbc (p:Int) (m:Int) (k:Int) n π (gM σ x.1.2.1 n) (bN x.1.2.2 n n)⟩) (fun x=>n-x.1.1) ⟨(r+2,A,T),oD,oD,⟨hA,hT⟩,rfl⟩ ?_ ?_
 ·dsimp only
  exact Sub.mk sJ ⟨.inl pQ,eI rfl rfl fFs rfl fFs (fun _ _=>PsLe.refl _) (fun _ _=>PsLe.refl _)⟩ (sL oM hπ)
 clear he he';rintro⟨⟨j,B,S⟩,hj,hrj,⟨hB,hS⟩,hE⟩;dsimp only at hj hrj hB hS hE ⊢;have heB:gM σ B n (π r)=aS (fun x=>i6 (B r x)) n:=pF hP hr fun x _=>rfl;have heB':gM σ B n (π (r+1))=aS (fun x=>i6 (B (r+1) x)) n:=pF hP hr1 fun x _=>rfl
 by_cases hjn:j<n
 ·obtain⟨f,hf⟩:∃f,n-j=f+1:=⟨n-j-1,oM⟩
  have hf2:n-(j+1)=f:=oM;rw[hf,twL] at hE;have hbx:=hB.div (q:=q) hr hjn;have hby:=hB.div (q:=q) hr1 hjn;have g1:IntKind.i64.wrap ((B r j).tdiv (q:Int))=B r j/(q:Int):=by rw[cZL (hB r j hr hjn).1];exact w64 oM oM
  have g2:IntKind.i64.wrap ((B (r+1) j).tdiv (q:Int))=B (r+1) j/(q:Int):=by rw[cZL (hB (r+1) j hr1 hjn).1];exact w64 oM oM
  have hS1:twS m mq n r j q a b cc u (B,S)=(addM m (-twF mq u a b (B (r+1) j/(q:Int)) (B r j/(q:Int))) (r+1) j n (addM m (-twF mq u cc b (B r j/(q:Int)) (B (r+1) j/(q:Int))) r j n B),colA m (-twF mq u a b (B (r+1) j/(q:Int)) (B r j/(q:Int))) (r+1) j n (colA m (-twF mq u cc b (B r j/(q:Int)) (B (r+1) j/(q:Int))) r j n S)):=rfl;rw[hS1] at hE;clear hS1;generalize B r j/(q:Int)=X at*;generalize B (r+1) j/(q:Int)=Y at*;obtain⟨⟨a1,a2⟩,⟨a3,a4⟩,a5,a6,a7,a8⟩:=xI (mq:=mq) (u:=u) (s:=cc) (t:=b) (x:=X) (y:=Y) hmq oM oM oM oM oM oM;obtain⟨⟨b1,b2⟩,⟨b3,b4⟩,b5,b6,b7,b8⟩:=xI (mq:=mq) (u:=u) (s:=a) (t:=b) (x:=Y) (y:=X) hmq oM oM oM oM oM oM;have C5:=aZo En (cc*X%(mq:Int)-b*Y%(mq:Int)) (mq:Int) oM oM;have C6:=aZo En (a*Y%(mq:Int)-b*X%(mq:Int)) (mq:Int) oM oM;have f1:=eZ3 hmq u cc b X Y;have f2:=eZ3 hmq u a b Y X;generalize twF mq u cc b X Y=F at*;generalize twF mq u a b Y X=G at*;have CA:=mZc En p m k n r j (-F) π σ B S hP hn hr hjn oM hm1 hm2 oM hB hS;have hB2:=hB.addM hm1 (-F) r j;have hS2:=hS.colA hm1 (-F) r j n;have CB:=mZc En p m k n (r+1) j (-G) π σ (addM m (-F) r j n B) (colA m (-F) r j n S) hP hn hr1 hjn oM hm1 hm2 oM hB2 hS2;refine js<|vS<|vV jj jj<|vN jj<|vF jj<|jS (bQ jj jj jj uG)<|jS (cP jj CSlice.ok)<|vLt jj<|jn<|jt jj<|jp<|js<|jb<|vS<|jm jj<|vN jj<|vF jj<|jS (bQ jj jj jj uG)<|jm jj<|jS (aF jj jj aO) ?_;refine jS (bB jj jj aO jj aG)<|jm jj<|jS (aF jj jj aO)<|jS (cF jj fFs aO aR aO) ?_;refine jm jj<|jS (bQu jj jj g1)<|jm jj<|vN jj<|vF jj<|jS (bQ jj jj jj uG)<|jm jj<|vAd jj e3<|jS (aF jj jj aO) ?_;refine jS (bB jj jj aO jj aG)<|jm jj<|jS (aF jj jj aO)<|jS (cF jj fFs aO aR aO) ?_;refine jm jj<|jS (bQu jj jj g2)<|ja jj<|vZ jj<|vS<|vV jj jj<|vMu jj a1<|jm jj<|jS (bRe jj jj a2)<|vV jj jj<|vMu jj a3<|jm jj<|jS (bRe jj jj a4)<|vSu jj a5<|jm jj<|vC C5 tB<|jm jj<|vMu jj a6<|jm jj<|jS (bRe jj jj a7)<|vZ jj<|vS<|vV jj jj<|vMu jj b1<|jm jj<|jS (bRe jj jj b2)<|vV jj jj<|vMu jj b3<|jm jj<|jS (bRe jj jj b4)<|vSu jj b5<|jm jj<|vC C6 tB<|jm jj<|vMu jj b6<|jm jj<|jS (bRe jj jj b7)<|vZ jj ?_;refine vS<|vV jj jj<|jS (gN jj (fun w=>fO w _ _) (dV a8))<|vV jj jj<|RG.SW (LT.plain jj (fW 1750 1760 1001 1780 1011 CA ⟨⟨jj,oN⟩,jj,jj,jj,trivial⟩ jj jj fFs jj fFs oM aM aM)) jj ?_;refine jn<|jr<|vV jj jj<|jS (gN jj (fun w=>fO w _ _) (dV b8))<|jm jj<|vAd jj e3<|jm jj<|RG.SW (LT.plain jj (fW 1750 1760 1001 1780 1011 CB ⟨⟨jj,oN⟩,jj,jj,jj,trivial⟩ jj jj fFs jj fFs oM aM aM)) jj ?_;refine jn<|jr<|jm jj<|vAd jj wO<|vZ jj ?_;refine⟨⟨(j+1,addM m (-G) (r+1) j n (addM m (-F) r j n B),colA m (-G) (r+1) j n (colA m (-F) r j n S)),oD,oD,⟨hB2.addM hm1 _ _ _,hS2.colA hm1 _ _ _ _⟩,by dsimp only;rw[hf2];exact hE⟩,?_,oD⟩
  dsimp only;exact Sub.mk sJ ⟨.inl pQ,eI rfl rfl fFs rfl fFs (fun _ _=>PsLe.refl _) (fun _ _=>PsLe.refl _)⟩ (sL oM hπ)
 ·have hjn2:j=n:=oM
  subst hjn2;rw[Nat.sub_self] at hE;have hE:twL m mq j r q a b cc u (j-(r+2)) (r+2) (A,T)=(B,S):=hE;rw[hE];refine js<|vS<|vV jj jj<|vN jj<|vF jj<|jS (bQ jj jj jj uG)<|jS (cP jj CSlice.ok)<|vLf jj<|jn<|jf jj<|je<|vS<|vV jj jj<|vV jj jj<|jS (aU (ps:=[(_,_),(_,_),(_,_),(_,_),(_,_)]) ⟨jj,Part.c jj,jj,Part.c jj,jj,Part.c jj,jj,Part.c jj,jj,Part.c jj,trivial⟩ jj)<|vP jj<|jn<|ji ?_;exact nZ4 rfl rfl rfl (eI rfl rfl fFs rfl fFs (fun _ _=>PsLe.refl _) (fun _ _=>PsLe.refl _)) (dY oM hπ)
end
end
section
open Go.RowKit Limb
theorem mvBx.famN{s t:Bx}{a src d:Nat}{f g:Nat→List Pd}{l:Bx}(hf:Fam s d f)(hd:d+8≤400)(ha:(a<d∨d+8≤a)∧(a+250<d∨d+8≤a+250))(hle:∀j,j<8→PsLe (f j) (g j))(r:mvBx (mvr a src) s t l):mvBx (mvr a src) s t (rws d g++l):=
 mvBx.fam (fun j hj=>BMv.keep (eT oM) oM oM uG (hf j hj) (hle j hj)) r
theorem mvBx.sbx{s t:Bx}{a src bS bG dG bT dT:Nat}{p m k:Int}{n:Nat}{π:Nat→Nat}{g g0 u u0:Nat→List Pd}{l:Bx}(hS:aB s bS=some (sC bG bT p m k n))(hG:aB s bG=some (aS (owP dG n π) n))(hg:Fam s dG g0)(hT:aB s bT=some (aS (owP dT n fun i=>i) n))(ht:Fam s dT u0)(eg:∀j,j<8→PsLe (g0 j) (g j))(et:∀j,j<8→PsLe (u0 j) (u j))
  (hb:(lk bS=true∧lk bG=true∧lk bT=true)∧(bS<500∧bG<500∧bT<500)) (hd:dG+8≤400∧dT+8≤400) (na:(bS≠a∧bG≠a∧bT≠a)∧(bS≠a+250∧bG≠a+250∧bT≠a+250)) (nd:((a<dG∨dG+8≤a)∧(a+250<dG∨dG+8≤a+250))∧((a<dT∨dT+8≤a)∧(a+250<dT∨dT+8≤a+250)))
  (lG:aB t bG≠none) (lT:aB t bT≠none) (lg:∀j,j<8→aB t (dG+j)≠none) (lt:∀j,j<8→aB t (dT+j)≠none) (hn:n≤8) (hπ:∀i,i<n→π i<8) (r:mvBx (mvr a src) s t l):mvBx (mvr a src) s t (sbx bS bG dG bT dT p m k n π g u++l):=by
 show mvBx _ _ _ ((bS,_)::(bG,_)::((rws dG g++((bT,_)::rws dT u))++l))
 rw[List.append_assoc];have cell:∀{b x y:Nat},b<500→b≠a→b≠a+250→aB t b≠none→PMv (mvr a src) s t (dC b 0 x y) (dC b 0 x y):=fun h1 h2 h3 h4=>PMv.own (cJ h2 h3) h4 uG uG;refine⟨BMv.cells hb.1.1 na.1.1 na.2.1 uG hS ⟨PMv.flat (PLe.refl _),PMv.flat (PLe.refl _),PMv.flat (PLe.refl _),cell hb.2.2.1 na.1.2.1 na.2.2.1 lG,cell hb.2.2.2 na.1.2.2 na.2.2.2 lT,trivial⟩,BMv.out hb.1.2.1 na.1.2.1 na.2.2.1 uG hG (fun i hi=>?_),mvBx.famN hg hd.1 nd.1 eg ⟨BMv.out hb.1.2.2 na.1.2.2 na.2.2.2 uG hT (fun i hi=>?_),mvBx.famN ht hd.2 nd.2 et r⟩⟩
 ·have:=hπ i hi
  exact cell oM oM oM (lg _ this)
 ·exact cell oD oD oD (lt i oM)
theorem bZN{s t:Bx}{a src bS bG dG bT dT:Nat}{p m k:Int}{n:Nat}{π:Nat→Nat}{g g0 u u0:Nat→List Pd}(hS:aB s bS=some (sC bG bT p m k n))(hG:aB s bG=some (aS (owP dG n π) n))(hg:Fam s dG g0)(hT:aB s bT=some (aS (owP dT n fun i=>i) n))(ht:Fam s dT u0)(eg:∀j,j<8→PsLe (g0 j) (g j))(et:∀j,j<8→PsLe (u0 j) (u j))
  (hb:(lk bS=true∧lk bG=true∧lk bT=true)∧(bS<500∧bG<500∧bT<500)) (hd:dG+8≤400∧dT+8≤400) (na:(bS≠a∧bG≠a∧bT≠a)∧(bS≠a+250∧bG≠a+250∧bT≠a+250)) (nd:((a<dG∨dG+8≤a)∧(a+250<dG∨dG+8≤a+250))∧((a<dT∨dT+8≤a)∧(a+250<dT∨dT+8≤a+250)))
  (lG:aB t bG≠none) (lT:aB t bT≠none) (lg:∀j,j<8→aB t (dG+j)≠none) (lt:∀j,j<8→aB t (dT+j)≠none) (hn:n≤8) (hπ:∀i,i<n→π i<8):mvBx (mvr a src) s t (sbx bS bG dG bT dT p m k n π g u):=by
 have:=mvBx.sbx (src:=src) (t:=t) (l:=[]) hS hG hg hT ht eg et hb hd na nd lG lT lg lt hn hπ trivial;rwa[List.append_nil] at this
def pjS(s:Sl)(m bx:Bx)(b d:Nat):Sl→Prop
 |[]=>True
 |(t,sd)::l=>(((∃sd',aB s t=some sd'∧SLe sd' sd)∧sd.live m∧sd.live bx)∨(∃o,aB s t=some (.ptr b o)∧sd= .ptr d o))∧pjS s m bx b d l
theorem fZS{s:Sl}{m bx:Bx}{b d:Nat}:∀{l:Sl},pjS s m bx b d l→∀{t:Nat} {sd:SD},aB l t=some sd→(((∃sd',aB s t=some sd'∧SLe sd' sd)∧sd.live m∧sd.live bx)∨(∃o,aB s t=some (.ptr b o)∧sd= .ptr d o))
 |[],_,_,_,h=>by cases h
 |(k,x)::l,⟨h1,h3⟩,t,sd,h=>by
  rw[aC] at h;split at h
  ·rename_i e;subst e;cases h;exact h1
  ·exact fZS h3 h
theorem Sub.pubJ{σ τ:St}(b d g:Nat){q:Pd}{bT n k len:Nat}{qs:List Pd}{l:Bx}(hq:Flat q)(hb:aB σ.bx b=some [q,dC bT 0 n n,tG g k len])(hg:aB σ.bx g=some qs)(hlen:qs.length=len*k)(hl0:0<len)(hgg:(500≤g∧g<700))(hbk:(400≤b∧b<500))(hd:d<400)(hlg:lk g=false)(hlb:lk b=true)(hτ:τ.bx=(d,[q,jC,slc k qs len])::l)
  (hs:pjS σ.sl l τ.bx b d τ.sl) (hl:subBx σ.bx l) (hlk:∀i ps,aB l i=some ps→lk i=false∧i≠d∧i<400) (hld:aB l d=none):Sub σ τ:=by
 rintro En nn w0 h0 c a w ⟨h,β,hi,hsl⟩;obtain⟨h',vs,hi',hle,hall,_,hcell⟩:=hi.pubG (bx':=(g,[])::σ.bx) g oM hg (fun i ps hp=>by
  rw[aC] at hp;split at hp
  ·cases hp;exact .inr rfl
  ·exact .inl ⟨ps,hp,PsLe.refl _⟩) (fun ps hp=>by rw[aC,if_pos rfl] at hp;cases hp;rfl) (fun i ps _ _=> .inl fun r hr=>nE hr)
 rw[dW hlg] at hcell;have hb':aB ((g,([]:List Pd))::σ.bx) b=some [q,dC bT 0 n n,tG g k len]:=by rw[aC,if_neg oM];exact hb
 obtain⟨⟨r0,_⟩,r2,us,rest,T,r3,r4,_,r6⟩:=hi'.box b _ hb' (by simp)
 rw[xJ hlb] at r3;have r6:=r6 hlb;obtain⟨u1,u2,u3,rfl⟩:∃u1 u2 u3,us=[u1,u2,u3]:=by
  match us,r4 with
  |[u1,u2,u3],_=>exact⟨u1,u2,u3,rfl⟩
  |[],h=>exact h.elim
  |[_],h=>exact h.2.2.elim
  |[_,_],h=>exact h.2.2.2.2.elim
  |_::_::_::_::_,h=>exact h.2.2.2.2.2.2.elim
 obtain⟨p1,o1,p2,o2,p3,o3,_⟩:=r4;have e1:tr β u1=u1:=gV (hq.flat h' u1 p1);have p3:u3=dZU g k len:=p3;obtain⟨len,rfl⟩:∃len',len=len'+1:=⟨len-1,oM⟩;have hgr:grows g:=by unfold grows;omega
 have e3:tr β u3= .slice (some ⟨β g,0,none⟩) (len+1) (β (g+250)/k):=by
  rw[p3];show tr β (.slice _ _ _)=_;rw[pO hgr]
 obtain⟨_,x2⟩:=r6 u3 (by simp) g k (len+1) 0 p3
 obtain⟨_,y1,y2,y3,y4,_⟩:=x2 hgr;have hall2:All2 h' [q,jC,slc k qs (len+1)] [u1,tr β u2,tr β u3]:=by
  refine⟨p1,o1,tN o2,tN o2,?_,tN o3,trivial⟩;rw[e3];exact⟨_,_,rfl,y3,y4,(fun h=>by cases h),hlen,fun _=>⟨β g,0,vs,rfl,hall,fun j u hu=>by rw[Nat.zero_add];exact hcell j u hu⟩⟩
 have src:∀i ps,aB τ.bx i=some ps→ps≠[]→(i=d∧ps=[q,jC,slc k qs (len+1)])∨(i≠d∧i<400∧lk i=false∧∃ps',aB ((g,([]:List Pd))::σ.bx) i=some ps'∧ps'≠[]∧PsLe ps' ps):=fun i ps hp hps=>by
  rw[hτ,aC] at hp;split at hp
  ·rename_i e;cases hp;exact .inl ⟨e.symm,rfl⟩
  ·rename_i e
   obtain⟨g1,g2,g3⟩:=hlk i ps hp;rcases lP hl hp with⟨ps',q1,q2⟩|rfl
   ·exact .inr ⟨g2,g3,g1,ps',by rw[aC,if_neg oM];exact q1,by rintro rfl;exact hps q2.nil,q2⟩
   ·exact absurd rfl hps
 have γo:∀i,i≠d→upd β d (β b) i=β i:=fun i hi=>aV hi;refine⟨h',upd β d (β b),⟨hi'.env,hi'.holds,hi'.le0,hi'.fresh,hi'.below,hi'.dis,fun i hge=>by rw[γo i oM];exact hi'.pin i hge,fun i ps hp hps=>?_,fun i j ps qs' hp hps hq' hqs e=>?_⟩,hsl.defers,hsl.size,fun t sd ht=>?_⟩
 ·rcases src i ps hp hps with⟨rfl,rfl⟩|⟨n1,n2,n3,ps',q1,q2,q3⟩
  ·rw[cK]
   refine⟨⟨fun _=>r0 oM,fun h=>absurd h oM⟩,r2,[u1,tr β u2,tr β u3],rest,T,?_,hall2,fun hgw=>absurd hgw uG,cZ (eT hd) _ _ _⟩;rw[dW (eT hd)];have:[u1,u2,u3].map (tr β)=[u1,tr β u2,tr β u3]:=by rw[List.map_cons,List.map_cons,List.map_cons,List.map_nil,e1]
   rw[←this];exact r3
  ·rw[γo i n1]
   obtain⟨k1,k2,ws,rs,T',k3,k4,k5,_⟩:=hi'.box i ps' q1 q2;rw[dW n3] at k3;obtain⟨v1,v2,e,hv⟩:=q3.all k4;exact⟨k1,k2,v1,v2++rs,T',by rw[dW n3,←List.append_assoc,←e];exact k3,hv,fun hgw=>absurd hgw uG,cZ n3 _ _ _⟩
 ·have ne:∀{i:Nat} {ps':List Pd},aB ((g,([]:List Pd))::σ.bx) i=some ps'→ps'≠[]→i<400→β i≠β b:=fun q1 q2 n2 e=>by
   have:=hi'.inj _ _ _ _ q1 q2 hb' (by simp) e
   omega
  rcases src i ps hp hps with⟨rfl,_⟩|⟨n1,n2,_,ps1,q1,q2,_⟩<;>rcases src j qs' hq' hqs with⟨rfl,_⟩|⟨m1,m2,_,ps2,k1,k2,_⟩
  ·rfl
  ·rw[cK,γo j m1] at e;exact absurd e.symm (ne k1 k2 m2)
  ·rw[cK,γo i n1] at e;exact absurd e (ne q1 q2 n2)
  ·rw[γo i n1,γo j m1] at e;exact hi'.inj i j _ _ q1 q2 k1 k2 e
 ·rcases fZS hs ht with⟨⟨sd',g1,g2⟩,g3,g4⟩|⟨o,g1,rfl⟩
  ·obtain⟨v,k1,k2,_⟩:=hsl.slot t sd' g1
   exact⟨v,k1,SD.ok_mono (g2.ok k2) g3 hle (fun i hi=>γo i (by rintro rfl;exact hi hld)),g4⟩
  ·obtain⟨v,k1,k2,_⟩:=hsl.slot t _ g1
   exact⟨v,k1,by show v=_;rw[cK];exact k2,by show aB τ.bx d≠none;rw[hτ,aC,if_pos rfl];simp⟩
end
section
open Go.RowKit Limb Det Num
theorem jZq{v:Int→Nat}{A:Nat→Nat→Int}{n:Nat}:∀{f i:Nat} {ab:Nat×Nat},i+f≤n→ab.1<n∧ab.2<n→(lsD v A f i ab).1<n∧(lsD v A f i ab).2<n
 |0,_,_,_,h=>h
 |f+1,i,_,hi,h=>jZq (f:=f) (i:=i+1) oM (jZi h oM oM)
theorem jZl{v:Int→Nat}{A:Nat→Nat→Int}{n i:Nat}(hin:i<n):∀{f j:Nat} {ab:Nat×Nat},j+f≤n→ab.1<n∧ab.2<n→(lsR v A i f j ab).1<n∧(lsR v A i f j ab).2<n
 |0,_,_,_,h=>h
 |f+1,j,_,hj,h=>jZl hin (f:=f) (j:=j+1) oM (jZi h hin oM)
theorem jZo{v:Int→Nat}{A:Nat→Nat→Int}{n:Nat}:∀{f i:Nat} {ab:Nat×Nat},i+f≤n→ab.1<n∧ab.2<n→(lsO v A f i ab).1<n∧(lsO v A f i ab).2<n
 |0,_,_,_,h=>h
 |f+1,i,_,hi,h=>jZo (f:=f) (i:=i+1) oM (jZl oM oM h)
theorem iW{p k n r:Nat}{A:Nat→Nat→Int}(hr:r<n):(aP p k n A r).1<n∧(aP p k n A r).2<n:=
 jZo oM (jZq oM ⟨hr,hr⟩)
abbrev MM:=(Nat→Nat→Int)×(Nat→Nat→Int)
def MB2(n m:Nat)(x:MM):Prop:=MB n m x.1∧MB n m x.2
theorem bZK{m n r q:Nat}{u:Int}(hm:1≤m):∀{f j:Nat} {x:MM},MB2 n m x→MB2 n m (yJ m n r q u f j x)
 |0,_,_,h=>h
 |f+1,j,_,h=>bZK hm (f:=f) (j:=j+1) ⟨h.1.addM hm _ _ _,h.2.colA hm _ _ _ _⟩
def uR(p k m n r:Nat)(x:MM):MM:=if(aP p k n x.1 r).1=(aP p k n x.1 r).2 then x else(addM m 1 (aP p k n x.1 r).2 (aP p k n x.1 r).1 n x.1,colA m 1 (aP p k n x.1 r).2 (aP p k n x.1 r).1 n x.2)
def dcA(p k m n r:Nat)(x:MM):MM:=(twM r (aP p k n x.1 r).1 (uR p k m n r x).1,twC r (aP p k n x.1 r).1 n (uR p k m n r x).2)
theorem mZx{p k m n r:Nat}{x:MM}(hm:1≤m)(h:MB2 n m x):MB2 n m (uR p k m n r x):=by
 unfold uR;split
 ·exact h
 ·exact⟨h.1.addM hm _ _ _,h.2.colA hm _ _ _ _⟩
theorem pZo{p k m n r:Nat}{x:MM}(hm:1≤m)(hr:r<n)(h:MB2 n m x):MB2 n m (dcA p k m n r x):=
 have h1:=mZx (p:=p) (k:=k) (r:=r) hm h
 ⟨h1.1.twM hr (iW hr).1,h1.2.twC hr (iW hr).1⟩
theorem hZR{n i:Nat}(hi:i<n):((List.replicate n ([.int .i64 0].map ex)).flatten).set (0+i*1) (i6 1)=bN idM (i+1) n i:=by
 rw[bA oM,fX,Nat.zero_add,Nat.mul_one];show(aS (fun _=>i6 0) n).set i _=aS _ n
 rw[nB hi];refine cA fun c hc=>?_;unfold idM
 by_cases e:c=i
 ·rw[if_pos e,if_pos e.symm]
 ·rw[if_neg e,if_neg fun h=>e h.symm]
section
variable(En:Ev)
end
end
section
open Go.RowKit Limb Det Num
instance kb137:CBody PZ 137:=cB Tryz.func137
instance kb79:CBody PZ 79:=cB Tryz.func79
instance kb31:CBody PZ 31:=cB Tryz.func31
instance kb10:CBody PZ 10:=cB Tryz.func10
section
variable(En:Ev)
theorem hwell(e p:Nat)(a:Int)(he:e≤60)(hp:2≤p)(ha:a.tmod (p:Int)≠0):Fn PZ En 137 [cD (uT e a),i6 p] (ex (.bool true)):=by
 have hp0:(p:Int)≠0:=oM;unfold uT;refine aA Tryz.func137 rfl Tryz.ntmps137 rfl ?_;intro w0 h0;refine vS<|vB jj<|vZ jj<|js<|vS<|vX jj<|vLf jj<|jm jj<|vY jj<|uGf jj<|vQ jj<|jn<|jf jj<|jp<|js<|vS<|vX jj<|vEt jj<|jn<|jt jj<|vS<|vX jj<|jm jj<|jS (aY jj jj (fun w=>cR w _ _ _ _ _ _ aW))<|vNt jj<|jm jj<|vY jj<|uEt jj<|vq jj<|jm jj<|vY jj<|uEt jj<|vq jj<|vZ jj ?_;refine ji ?_;exact rtT rfl jj
theorem lZY(E:Nat→Nat)(a:Nat→Int)(n p:Nat)(hn:1≤n)(hn8:n≤8)(hp:2≤p)(hE:∀i,i<n→E i≤60)(hs:∀i,i+1<n→E i≤E (i+1))(ha:∀i,i<n→(a i).tmod (p:Int)≠0):Fn PZ En 79 [slc 5 (rowL (fun i=>uT (E i) (a i)) n) n,i6 p] (ex (.bool true)):=by
 have hrow:∀i,i<n→((rowL (fun i=>uT (E i) (a i)) n).drop (i*5)).take 5=uT (E i) (a i):=fun i hi=>fY (fun _ _=>rfl) hi;generalize hL:rowL (fun i=>uT (E i) (a i)) n=L at*;refine aA Tryz.func79 rfl Tryz.ntmps79 rfl ?_;intro w0 h0;refine vS<|vZ jj<|vS<|vZ jj<|js<|vS<|jm jj<|jE jj<|jm jj<|jn<|jb ?_;refine WpD.loop (α:={i:Nat//i≤n}) (fun i=>⟨[(0,.one (slc 5 L n)),(1,.one (i6 p)),(5,.one (i6 i.1)),(8,.one (slc 5 L n)),(9,.one (i6 n)),(10,.one (i6 i.1))],[]⟩) (fun i=>n-i.1) ⟨0,Nat.zero_le _⟩ ?_ ?_
 ·dsimp only
  exact Sub.mk sJ sJ
 rintro⟨i,hi⟩;dsimp only
 by_cases hin:i<n
 ·have C1:=hwell En (E i) p (a i) (hE i hin) hp (ha i hin)
  have hr1:=hrow i hin
  by_cases h0:i=0
  ·refine vS<|vLt jj<|vW jj<|vS<|jm jj<|vD jj aO aM<|vR jj<|vA jj<|ja jj<|vP jj<|jn<|js<|vS<|jm jj<|jS (bHf jj jj)<|jm jj<|jg (dM jj jj jj jj)<|jgm jj<|jg (aQ C1 ⟨jj,jj,trivial⟩)<|jg (bNo jj)<|vQ jj<|jm jj<|jgm jj<|uGf jj<|jgm jj<|jk<|jk<|jk<|jk<|jk<|jk<|jk<|jk<|jk<|jg (bZ jj jj)<|vQ jj<|jn ?_
   refine jf jj<|jp<|jr<|jm jj<|vX jj<|vAd jj wO<|vZ jj<|jr<|vAd jj wO<|jm jj<|jn ?_;refine⟨⟨i+1,oM⟩,?_,oD⟩;dsimp only;exact Sub.mk sJ sJ
  ·have hr2:=hrow (i-1) oM
   have hse:=hs (i-1) oM;rw[show i-1+1=i by omega] at hse
   have e1:=wM i oM;refine vS<|vLt jj<|vW jj<|vS<|jm jj<|vD jj aO aM<|vR jj<|vA jj<|ja jj<|vP jj<|jn<|js<|vS<|jm jj<|jS (bHf jj jj)<|jm jj<|jg (dM jj jj jj jj)<|jgm jj<|jg (aQ C1 ⟨jj,jj,trivial⟩)<|jg (bNo jj)<|vQ jj<|jm jj<|jgm jj<|uGt jj<|jgm jj<|vY jj<|jgm jj<|jgm jj<|jg (bSu jj jj e1)<|jg (aK jj jj aO aM)<|jg (aI jj jj)<|jg (aZ jj jj)<|uLf jj<|jg (dE jj jj)<|vQ jj<|jn ?_;refine jf jj<|jp<|jr<|jm jj<|vX jj<|vAd jj wO<|vZ jj<|jr<|vAd jj wO<|jm jj<|jn ?_;refine⟨⟨i+1,oM⟩,?_,oD⟩;dsimp only;exact Sub.mk sJ sJ
 ·have e:i=n:=oM
  subst e;refine vS<|vLf jj<|vU jj<|vS<|jm jj<|jS (bHt jj jj)<|jm jj<|jgm jj<|jg (bMt jj jj)<|vq jj<|vZ jj<|ji ?_;exact rtT rfl jj
end
end
end Go.Proofs.YtfmjdlogjmofbaaGreatDoor

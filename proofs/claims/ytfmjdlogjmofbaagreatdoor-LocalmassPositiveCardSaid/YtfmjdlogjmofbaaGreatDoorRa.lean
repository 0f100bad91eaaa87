/- Natural numbers of the program: a step of long division. -/
import Derived.Test.YtfmjdlogjmofbaaGreatDoorJ
import Derived.Test.YtfmjdlogjmofbaaGreatDoorN
import Derived.Test.YtfmjdlogjmofbaaGreatDoorTc
import Derived.Test.YtfmjdlogjmofbaaGreatDoorV
import Derived.Test.YtfmjdlogjmofbaaGreatDoorW
set_option maxHeartbeats 4000000
set_option maxRecDepth 3000
namespace Go.Proofs.YtfmjdlogjmofbaaGreatDoor
section
open Go.RowKit Limb
theorem rE{Lo M Hi:List Nat}{i x:Nat}(h:M[i]? =some x):((Lo++(M++Hi)).map lb)[Lo.length+i]? =some (lb x):=by
 refine hZz ?_;have hlt:=(List.getElem?_eq_some_iff.1 h).1;rw[List.getElem?_append_right oM,show Lo.length+i-Lo.length=i by omega,List.getElem?_append_left hlt];exact h
theorem bZ1(Lo N R Hi:List Nat)(y x:Nat){i:Nat}(hi:N.length=i):((Lo++((N++y::R)++Hi)).map lb).set (Lo.length+i) (ex (.int .u32 (x:Int)))=(Lo++(((N++[x])++R)++Hi)).map lb:=by
 have:=bZ2 (Lo++N) (R++Hi) y x;rw[List.length_append,hi] at this;simp only[List.append_assoc,List.cons_append,List.nil_append] at this ⊢;exact this
theorem bZX{Lo M Hi:List Nat}{i:Nat}(h:i<M.length):Lo.length+i<((Lo++(M++Hi)).map lb).length:=by simp;omega
theorem bZe{x y:Nat}(hx:x<B)(hy:y≤B):mI x y%B=iQ x y:=by unfold mI iQ;rw[bM] at*;split<;>omega
theorem bZd{x y:Nat}(hx:x<B)(hy:y≤B):(mI x y:Int).fdiv (2^(min (63:Int).toNat IntKind.u64.bits))=((lE x y:Nat):Int):=by
 show(mI x y:Int).fdiv (2^63)=_
 rw[Int.fdiv_eq_ediv_of_nonneg _ aD];unfold mI lE;rw[bM] at*;split<;>omega
theorem zQ{x a b:Nat}(hx:x<B)(ha:a<B)(hb:b≤1):IntKind.u64.wrap (IntKind.u64.wrap ((x:Int)-(a:Int))-(b:Int))=((mI x (a+b):Nat):Int):=by
 rw[IntKind.wrap_u64,IntKind.wrap_u64];unfold mI;rw[bM] at*;split<;>omega
section
variable(En:Ev)
theorem nstep(Lo u Hi v:List Nat)(cap:Nat)(hlen:Lo.length+v.length≤1099511627776)(hn:2≤v.length)(hul:u.length=v.length+1)(hum:Lm u)(hvm:Lm v)(hnorm:∀t,v[v.length-1]? =some t→B≤2*t)(hlt:val u<val v*B):
  FnG PZ En 190 [.own 1000 Lo.length (v.length+1) cap,.one (mag v)] [(1000,(Lo++(u++Hi)).map lb)] (.one (lb (val u/val v))) [(1000,(Lo++(pd (val u%val v) (v.length+1)++Hi)).map lb)]:=by
 obtain⟨v1,hv1⟩:∃x,v[v.length-1]? =some x:=⟨_,List.getElem?_eq_getElem oM⟩;obtain⟨v2,hv2⟩:∃x,v[v.length-2]? =some x:=⟨_,List.getElem?_eq_getElem oM⟩;obtain⟨u0,hu0⟩:∃x,u[v.length]? =some x:=⟨_,List.getElem?_eq_getElem oM⟩;obtain⟨u1,hu1⟩:∃x,u[v.length-1]? =some x:=⟨_,List.getElem?_eq_getElem oM⟩;obtain⟨u2,hu2⟩:∃x,u[v.length-2]? =some x:=⟨_,List.getElem?_eq_getElem oM⟩;have K:=kn_of hn rfl hul hvm hum hv1 hv2 hu0 hu1 hu2 (hnorm _ hv1) hlt;have bv1:=hvm.get hv1;have bv2:=hvm.get hv2;have bu0:=hum.get hu0;have bu1:=hum.get hu1;have bu2:=hum.get hu2;have hv1n:=K.norm;have hBd:=bM;have hqz:(0:Int)≤((val u/val v:Nat):Int):=Int.natCast_nonneg _;have g0:=rE (Lo:=Lo) (Hi:=Hi) hu0;have g1:=rE (Lo:=Lo) (Hi:=Hi) hu1;have g2:=rE (Lo:=Lo) (Hi:=Hi) hu2;have i0:v.length<v.length+1:=oM;have i1:v.length-1<v.length+1:=oM;have i2:v.length-2<v.length+1:=oM;have c64:∀x:Nat,x<B→IntKind.u64.wrap (x:Int)=(x:Int):=fun x hx=>fC oM oM;have s32:∀x:Nat,x<B→IntKind.u64.wrap ((x:Int)*2^(min (32:Int).toNat IntKind.u64.bits))=((x*B:Nat):Int):=fun x hx=>by
  show IntKind.u64.wrap ((x:Int)*2^32)=_
  rw[bM] at hx ⊢;rw[fC oM oM];omega
 have e1:IntKind.i64.wrap ((v.length:Int)-1)=((v.length-1:Nat):Int):=by rw[w64 oM oM];omega
 have e2:IntKind.i64.wrap ((v.length:Int)-2)=((v.length-2:Nat):Int):=by rw[w64 oM oM];omega
 have eH:=yH bu0 bu1;obtain⟨H,hH⟩:∃H,u0*B+u1=H:=⟨_,rfl⟩;obtain⟨st1,st2⟩:=K.start;rw[hH] at eH st1 st2;have hHlt:H<B*B:=by
  rw[←hH];have:(u0+1)*B≤B*B:=Nat.mul_le_mul_right _ bu0;rw[Nat.add_mul] at this;omega
 have hBB:B*B=18446744073709551616:=by decide
 have hH64:H<18446744073709551616:=by rw[←hBB];exact hHlt
 have hv10:(v1:Int)≠0:=oM;have eq:IntKind.u64.wrap ((H:Int).tdiv (v1:Int))=((H/v1:Nat):Int):=by
  rw[Int.tdiv_eq_ediv_of_nonneg (Int.natCast_nonneg _),←Int.natCast_ediv];exact fC (Int.natCast_nonneg _) (Int.ofNat_lt.2 (Nat.lt_of_le_of_lt (Nat.div_le_self _ _) hH64))
 have er:(H:Int).tmod (v1:Int)=((H%v1:Nat):Int):=by
  rw[Int.tmod_eq_emod_of_nonneg (Int.natCast_nonneg _),←Int.natCast_emod]
 refine bL Tryz.func190 rfl Tryz.ntmps190 rfl ?_;intro w0 h0 c;refine kR ?_;refine vZ jj ?_;refine kR ?_;refine jm jj<|jE jj<|vZ jj ?_;refine kR ?_;refine vV jj jj<|jS (eO jj jj aO)<|jS (aX jj jj aM)<|jS (bCv jj (c64 _ bu0))<|jS (aH jj jj (fun w=>jD w _ _ _ _ _ _ _ aW) (dV (s32 _ bu0)))<|vV jj jj<|vSu jj e1<|jS (eO jj jj aO)<|jS (aX jj jj aM)<|jS (bCv jj (c64 _ bu1))<|jS (aH jj jj (fun w=>lK w _ _ _ _ _ _) (dV eH))<|vZ jj ?_;refine kR ?_;refine vV jj jj<|jm jj<|vSu jj e1<|jS (bY jj jj aM)<|vT jj<|jS (bCv jj (c64 _ bv1))<|jS (bQu jj jj eq)<|vV jj jj<|jm jj<|vSu jj e1<|jS (bY jj jj aM)<|vT jj<|jS (bCv jj (c64 _ bv1))<|jS (bRe jj jj er)<|ja jj<|vZ jj ?_;refine WpD.cut (α:={g:Nat//g<B∧val u/val v≤g∧g≤val u/val v+1}) (fun g=>⟨[(0,.own 1000 Lo.length (v.length+1) cap),(1,.one (mag v)),(5,.one (i6 v.length)),(7,.one (ex (.int .u64 (g.1:Int))))],[(1000,(Lo++(u++Hi)).map lb)]⟩) ?_ ?_
 ·refine WpD.block ?_
  refine WpD.loop (α:={p:Nat×Nat//p.1*v1+p.2=H∧val u/val v≤p.1∧p.1≤B+1∧p.2<B}) (fun p=>⟨[(0,.own 1000 Lo.length (v.length+1) cap),(1,.one (mag v)),(5,.one (i6 v.length)),(7,.one (ex (.int .u64 (p.1.1:Int)))),(8,.one (ex (.int .u64 (p.1.2:Int))))],[(1000,(Lo++(u++Hi)).map lb)]⟩) (fun p=>B-p.1.2) ⟨(H/v1,H%v1),by rw[Nat.mul_comm];exact Nat.div_add_mod _ _,st1,st2,Nat.lt_trans (Nat.mod_lt _ oM) bv1⟩ ?_ ?_
  ·
   exact Sub.mk sJ sJ
  rintro⟨⟨g,r⟩,hg,hq,hgB,hr⟩;simp only at hg hq hgB hr;dsimp only;refine WpD.cut (α:={_x:Unit//B≤g∨r*B+u2<g*v2}) (fun _=>⟨[(0,.own 1000 Lo.length (v.length+1) cap),(1,.one (mag v)),(5,.one (i6 v.length)),(7,.one (ex (.int .u64 (g:Int)))),(8,.one (ex (.int .u64 (r:Int))))],[(1000,(Lo++(u++Hi)).map lb)]⟩) ?_ ?_
  ·have gsh:=rV g
   by_cases hgb:B≤g
   ·have q1:1≤g/B:=by rw[Nat.le_div_iff_mul_le dD];omega
    have t1:(((g/B:Nat):Int) !=0)=true:=by rw[bne_iff_ne];omega
    refine kR ?_;refine jm jj<|jS (aH jj jj (fun w=>dF w _ _ _ _ _ _ _ aW) (dV gsh))<|jS (bVn jj jj t1)<|jm jj ?_;refine kG ?_;refine kG ?_;refine kG ?_;first|refine jg (aY jj jj (fun w=>eR w _ _ _ _ _ _)) ?_|refine jk ?_
    first|refine jg (bY jj jj aM) ?_|refine jk ?_
    first|refine jg (aZ jj jj) ?_|refine jk ?_
    first|refine jg (bZ7 jj (fun w=>tQ w CInt.ok CInt.ok _ _)) ?_|refine jk ?_
    first|refine jg (aY jj jj (fun w=>cZQ w _ _ _ _ _ _)) ?_|refine jk ?_
    refine kG ?_;first|refine jg (aY jj jj (fun w=>jD w _ _ _ _ _ _ _ aW)) ?_|refine jk ?_
    refine kG ?_;refine kG ?_;first|refine jg (aY jj jj (fun w=>eR w _ _ _ _ _ _)) ?_|refine jk ?_
    first|refine jg (eO jj jj aO) ?_|refine jk ?_
    first|refine jg (aX jj jj aM) ?_|refine jk ?_
    first|refine jg (bZ7 jj (fun w=>tQ w CInt.ok CInt.ok _ _)) ?_|refine jk ?_
    first|refine jg (aY jj jj (fun w=>lK w _ _ _ _ _ _)) ?_|refine jk ?_
    first|refine jg (aY jj jj (fun w=>nS w _ _ _ _ _ _)) ?_|refine jk ?_
    refine kH ?_;refine jn ?_;refine kO ?_;refine WpD.condT rfl ?_;refine kO ?_;refine WpD.skip ?_;refine⟨⟨(),.inl hgb⟩,?_⟩;exact Sub.mk sJ sJ
   ·have q1:g/B=0:=Nat.div_eq_of_lt oM
    have t1:(((g/B:Nat):Int) !=0)=false:=by rw[q1];rfl
    have hgv:g*v2≤18446744065119617025:=(mO dD oM bv2 dD).2;have em:IntKind.u64.wrap ((g:Int)*(v2:Int))=((g*v2:Nat):Int):=by rw[←Int.natCast_mul];exact fC oM oM
    have eo:=yH hr bu2
    by_cases htest:r*B+u2<g*v2
    ·have t2:decide (((g*v2:Nat):Int)>((r*B+u2:Nat):Int))=true:=decide_eq_true oM
     refine kR ?_;refine jm jj<|jS (aH jj jj (fun w=>dF w _ _ _ _ _ _ _ aW) (dV gsh))<|jS (bVn jj jj t1)<|jm jj ?_;refine kG ?_;refine kG ?_;refine kG ?_;first|refine jg (bSu jj jj e2) ?_|refine jk ?_
     first|refine jg (bY jj jj aM) ?_|refine jk ?_
     first|refine jg (aZ jj jj) ?_|refine jk ?_
     first|refine jg (bCv jj (c64 _ bv2)) ?_|refine jk ?_
     first|refine jg (bMu jj jj em) ?_|refine jk ?_
     refine kG ?_;first|refine jg (aH jj jj (fun w=>jD w _ _ _ _ _ _ _ aW) (dV (s32 _ hr))) ?_|refine jk ?_
     refine kG ?_;refine kG ?_;first|refine jg (bSu jj jj e2) ?_|refine jk ?_
     first|refine jg (eO jj jj aO) ?_|refine jk ?_
     first|refine jg (aX jj jj aM) ?_|refine jk ?_
     first|refine jg (bCv jj (c64 _ bu2)) ?_|refine jk ?_
     first|refine jg (aH jj jj (fun w=>lK w _ _ _ _ _ _) (dV eo)) ?_|refine jk ?_
     first|refine jg (bVg jj jj t2) ?_|refine jk ?_
     refine kH ?_;refine jn ?_;refine kO ?_;refine WpD.condT rfl ?_;refine kO ?_;refine WpD.skip ?_;refine⟨⟨(),.inr htest⟩,?_⟩;exact Sub.mk sJ sJ
    ·have t2:decide (((g*v2:Nat):Int)>((r*B+u2:Nat):Int))=false:=decide_eq_false oM
     refine kR ?_;refine jm jj<|jS (aH jj jj (fun w=>dF w _ _ _ _ _ _ _ aW) (dV gsh))<|jS (bVn jj jj t1)<|jm jj ?_;refine kG ?_;refine kG ?_;refine kG ?_;first|refine jg (bSu jj jj e2) ?_|refine jk ?_
     first|refine jg (bY jj jj aM) ?_|refine jk ?_
     first|refine jg (aZ jj jj) ?_|refine jk ?_
     first|refine jg (bCv jj (c64 _ bv2)) ?_|refine jk ?_
     first|refine jg (bMu jj jj em) ?_|refine jk ?_
     refine kG ?_;first|refine jg (aH jj jj (fun w=>jD w _ _ _ _ _ _ _ aW) (dV (s32 _ hr))) ?_|refine jk ?_
     refine kG ?_;refine kG ?_;first|refine jg (bSu jj jj e2) ?_|refine jk ?_
     first|refine jg (eO jj jj aO) ?_|refine jk ?_
     first|refine jg (aX jj jj aM) ?_|refine jk ?_
     first|refine jg (bCv jj (c64 _ bu2)) ?_|refine jk ?_
     first|refine jg (aH jj jj (fun w=>lK w _ _ _ _ _ _) (dV eo)) ?_|refine jk ?_
     first|refine jg (bVg jj jj t2) ?_|refine jk ?_
     refine kH ?_;refine jn ?_;refine kO ?_;refine WpD.condF rfl ?_;refine kO ?_;refine WpD.exit ?_;refine⟨⟨g,oM,hq,K.up (by rw[hH];exact hg) oM oM⟩,?_⟩
     exact Sub.mk sJ sJ
  ·rintro⟨⟨⟩,htest⟩
   have hdn:=K.down (by rw[hH];exact hg) htest
   have e5:IntKind.u64.wrap ((g:Int)-1)=((g-1:Nat):Int):=by rw[fC oM oM];omega
   have e6:IntKind.u64.wrap ((r:Int)+(v1:Int))=((r+v1:Nat):Int):=by rw[fC oM oM];omega
   have hg':(g-1)*v1+(r+v1)=H:=by
    have:g*v1=(g-1)*v1+v1:=by rw[←Nat.succ_mul];congr 1;omega
    omega
   have rsh:=rV (r+v1)
   by_cases hrb:B≤r+v1
   ·have q1:1≤(r+v1)/B:=by rw[Nat.le_div_iff_mul_le dD];omega
    have t1:((((r+v1)/B:Nat):Int) !=0)=true:=by rw[bne_iff_ne];omega
    have hgB':g-1<B:=by
     rcases Nat.lt_or_ge (g-1) B with h|h
     ·exact h
     ·exfalso
      have h0:=K.top;have h1:B*v1≤(g-1)*v1:=Nat.mul_le_mul_right _ h;have h2:u0*B≤v1*B:=Nat.mul_le_mul_right _ h0;rw[Nat.mul_comm] at h1;omega
    have hup:g-1≤val u/val v+1:=by
     refine K.up (r:=r+v1) (by rw[hH];exact hg') hgB' ?_
     have h1:=(mO dD hgB' bv2 dD).2;have h2:B*B≤(r+v1)*B:=Nat.mul_le_mul_right _ hrb;omega
    refine kR ?_;refine jm jj<|vSu jj e5<|vZ jj ?_;refine kR ?_;refine vV jj jj<|jm jj<|vSu jj e1<|jS (bY jj jj aM)<|vT jj<|jS (bCv jj (c64 _ bv1))<|vAd jj e6<|vZ jj ?_;refine kR ?_;refine jm jj<|jS (aH jj jj (fun w=>dF w _ _ _ _ _ _ _ aW) (dV rsh))<|jS (bVn jj jj t1)<|jn ?_;refine kO ?_;refine WpD.condT rfl ?_;refine kO ?_;refine WpD.exit ?_;refine⟨⟨g-1,hgB',oM,hup⟩,?_⟩;exact Sub.mk sJ sJ
   ·have q1:(r+v1)/B=0:=Nat.div_eq_of_lt oM
    have t1:((((r+v1)/B:Nat):Int) !=0)=false:=by rw[q1];rfl
    refine kR ?_;refine jm jj<|vSu jj e5<|vZ jj ?_;refine kR ?_;refine vV jj jj<|jm jj<|vSu jj e1<|jS (bY jj jj aM)<|vT jj<|jS (bCv jj (c64 _ bv1))<|vAd jj e6<|vZ jj ?_;refine kR ?_;refine jm jj<|jS (aH jj jj (fun w=>dF w _ _ _ _ _ _ _ aW) (dV rsh))<|jS (bVn jj jj t1)<|jn ?_;refine kO ?_;refine WpD.condF rfl ?_;refine kO ?_;refine WpD.skip ?_;refine⟨⟨(g-1,r+v1),hg',by simp only;omega,by simp only;omega,by simp only;omega⟩,?_,by simp only;omega⟩
    exact Sub.mk sJ sJ
 ·rintro⟨g,hgB,hq1,hq2⟩
  dsimp only;have hVpos:=K.Vpos;refine kR ?_;refine ja jj<|vZ jj ?_;refine kR ?_;refine vV jj jj<|jn ?_;refine kO ?_;refine WpD.loop (α:={p:Nat×List Nat×Nat×Nat//p.1≤v.length∧MsInv u v g p.1 p.2.1 p.2.2.1 p.2.2.2}) (fun p=>⟨[(0,.own 1000 Lo.length (v.length+1) cap),(1,.one (mag v)),(5,.one (i6 v.length)),(7,.one (ex (.int .u64 (g:Int)))),(9,.one (ex (.int .u64 (p.1.2.2.1:Int)))),(10,.one (ex (.int .u64 (p.1.2.2.2:Int)))),(82,.one (i6 v.length)),(83,.one (i6 p.1.1))],[(1000,(Lo++((p.1.2.1++u.drop p.1.1)++Hi)).map lb)]⟩) (fun p=>v.length-p.1.1) ⟨(0,[],0,0),Nat.zero_le _,MsInv.start u v g⟩ ?_ ?_
  ·
   exact Sub.mk sJ sJ
  rintro⟨⟨k,N,cc,b⟩,hk,hM⟩;simp only at hk hM;dsimp only;obtain⟨hNl,hNm,hcB,hb1,_⟩:=id hM
  by_cases hkn:k<v.length
  ·obtain⟨x,hx⟩:∃x,u[k]? =some x:=⟨_,List.getElem?_eq_getElem oM⟩
   obtain⟨y,hy⟩:∃y,v[k]? =some y:=⟨_,List.getElem?_eq_getElem oM⟩;have hxB:=hum.get hx;have hyB:=hvm.get hy;obtain⟨hM',hmb⟩:=hM.step hgB hum hvm hx hy;obtain⟨t,ht⟩:∃t,cc+g*y=t:=⟨_,rfl⟩;rw[ht] at hM' hmb;have hmul:=(mO dD hgB hyB dD).2;have hdr:u.drop k=x::u.drop (k+1):=by rw[List.drop_eq_getElem_cons (by omega:k<u.length),(List.getElem?_eq_some_iff.1 hx).2]
   have hMx:(N++u.drop k)[k]? =some x:=by rw[List.getElem?_append_right oM,hNl,Nat.sub_self,hdr];rfl
   have hget:=rE (Lo:=Lo) (Hi:=Hi) hMx;have hkl:k<v.length+1:=oM;have hsetl:=bZX (Lo:=Lo) (Hi:=Hi) (List.getElem?_eq_some_iff.1 hMx).1;have htB:t%B<B:=Nat.mod_lt _ dD;have b1:decide ((k:Int)<(v.length:Int))=true:=decide_eq_true oM;have e7:IntKind.u64.wrap ((g:Int)*(y:Int))=((g*y:Nat):Int):=by rw[←Int.natCast_mul];exact fC oM oM
   have e8:IntKind.u64.wrap ((cc:Int)+((g*y:Nat):Int))=(t:Int):=by rw[fC oM oM,←ht];omega
   have hset:((Lo++((N++u.drop k)++Hi)).map lb).set (Lo.length+k) (ex (.int .u32 ((iQ x (t%B+b):Nat):Int)))=(Lo++(((N++[iQ x (t%B+b)])++u.drop (k+1))++Hi)).map lb:=by
    rw[hdr];exact bZ1 Lo N _ Hi x _ hNl
   have e14:IntKind.u32.wrap ((mI x (t%B+b):Nat):Int)=((iQ x (t%B+b):Nat):Int):=by rw[nO,bZe hxB oM]
   have e13:IntKind.i64.wrap ((k:Int)+1)=((k+1:Nat):Int):=by rw[w64 oM oM];omega
   refine kR ?_;refine jS (bVl jj jj b1)<|jn ?_;refine kO ?_;refine WpD.condT rfl ?_;refine kO ?_;refine WpD.skip ?_;refine kR ?_;refine jm jj<|vZ jj ?_;refine kR ?_;refine vV jj jj<|vV jj jj<|jS (bY jj jj aM)<|vT jj<|jS (bCv jj (c64 _ hyB))<|vMu jj e7<|vAd jj e8<|vZ jj ?_;refine kR ?_;refine vV jj jj<|jS (eO jj jj aO)<|jS (aX jj jj aM)<|jS (bCv jj (c64 _ hxB))<|jm jj<|jS (bCv jj (nO _))<|jS (bCv jj (c64 _ htB))<|jS (aY jj jj (fun w=>eR w _ _ _ _ _ _))<|jm jj<|vSu jj (zQ hxB htB hb1)<|vZ jj ?_;refine kR ?_;refine vV jj jj<|jm jj<|jS (bCv jj e14)<|jS (eO jj jj aO)<|jO (bX jj jj jj aM aM)<|jn ?_;refine kR ?_;refine jm jj<|jS (aH jj jj (fun w=>dF w _ _ _ _ _ _ _ aW) (dV (rV _)))<|vZ jj ?_;refine kR ?_;refine jm jj<|jS (aH jj jj (fun w=>dF w _ _ _ _ _ _ _ aW) (dV (bZd hxB oM)))<|vZ jj ?_;refine kR ?_;refine vAd jj e13<|jm jj<|jn ?_;refine⟨⟨(k+1,N++[iQ x (t%B+b)],t/B,lE x (t%B+b)),hkn,hM'⟩,?_,by simp only;omega⟩
   exact Sub.mk sJ sJ
  ·have b1:decide ((k:Int)<(v.length:Int))=false:=decide_eq_false oM
   have hkv:k=v.length:=oM;subst hkv;have hdr:u.drop v.length=u0::[]:=by
    rw[List.drop_eq_getElem_cons (by omega:v.length<u.length),(List.getElem?_eq_some_iff.1 hu0).2,List.drop_eq_nil_of_le oM]
   have hMx:(N++u.drop v.length)[v.length]? =some u0:=by rw[List.getElem?_append_right oM,hNl,Nat.sub_self,hdr];rfl
   have hget:=rE (Lo:=Lo) (Hi:=Hi) hMx;have hsetl:=bZX (Lo:=Lo) (Hi:=Hi) (List.getElem?_eq_some_iff.1 hMx).1;have e8:=zQ bu0 hcB hb1;have e14:IntKind.u32.wrap ((mI u0 (cc+b):Nat):Int)=((iQ u0 (cc+b):Nat):Int):=by rw[nO,bZe bu0 oM]
   have hset:((Lo++((N++u.drop v.length)++Hi)).map lb).set (Lo.length+v.length) (ex (.int .u32 ((iQ u0 (cc+b):Nat):Int)))=(Lo++(((N++[iQ u0 (cc+b)])++[])++Hi)).map lb:=by
    rw[hdr];exact bZ1 Lo N [] Hi u0 _ hNl
   have hsh:=bZd bu0 (show cc+b≤B by omega)
   refine kR ?_;refine jS (bVl jj jj b1)<|jn ?_;refine kO ?_;refine WpD.condF rfl ?_;refine kO ?_;refine WpD.exit ?_;refine kR ?_;refine vV jj jj<|jS (eO jj jj aO)<|jS (aX jj jj aM)<|jS (bCv jj (c64 _ bu0))<|jm jj<|jS (aY jj jj (fun w=>eR w _ _ _ _ _ _))<|jm jj<|vSu jj e8<|vZ jj ?_;refine kR ?_;refine vV jj jj<|jm jj<|jS (bCv jj e14)<|jS (eO jj jj aO)<|jO (bX jj jj jj aM aM)<|jn ?_
   by_cases hcb:cc+b≤u0
   ·obtain⟨r1,r2⟩:=hM.right rfl hul hu0 hum hq1 hVpos hcb
    have hdd:iQ u0 (cc+b)=u0-(cc+b):=by unfold iQ;rw[if_neg oM]
    have hdb:lE u0 (cc+b)=0:=by unfold lE;rw[if_neg oM]
    have t1:(((lE u0 (cc+b):Nat):Int)==0)=true:=by rw[hdb];rfl
    have hgw:((g%B:Nat):Int)=((val u/val v:Nat):Int):=by rw[Nat.mod_eq_of_lt hgB,r1]
    rw[hdd,r2,List.append_nil];refine kR ?_;refine jm jj<|jS (aH jj jj (fun w=>dF w _ _ _ _ _ _ _ aW) (dV hsh))<|jS (bVq jj jj t1)<|jn ?_;refine kO ?_;refine WpD.condT rfl ?_;refine kR ?_;refine jm jj<|jS (bCv jj ((nO _).trans hgw))<|vZ jj ?_;refine kO ?_;refine WpD.ret ?_;exact kC rfl rfl (PLe.refl _) trivial ⟨.inl pQ,trivial⟩
   ·obtain⟨r1,r2,r3⟩:=hM.wrong rfl hul hu0 hvm hq2 hVpos oM
    have hdd:iQ u0 (cc+b)=B-1:=by unfold iQ;rw[if_pos oM];omega
    have hdb:lE u0 (cc+b)=1:=by unfold lE;rw[if_pos oM]
    have t1:(((lE u0 (cc+b):Nat):Int)==0)=false:=by rw[hdb];rfl
    rw[hdd,List.append_nil];refine kR ?_;refine jm jj<|jS (aH jj jj (fun w=>dF w _ _ _ _ _ _ _ aW) (dV hsh))<|jS (bVq jj jj t1)<|jn ?_;refine kO ?_;refine WpD.condF rfl ?_;refine kO ?_;refine WpD.skip ?_;refine kR ?_;refine vZ jj ?_;refine kR ?_;refine vV jj jj<|jn ?_;refine kO ?_;refine WpD.loop (α:={p:Nat×List Nat×Nat//p.1≤v.length∧SumInv N v p.1 p.2.1 p.2.2}) (fun p=>⟨[(0,.own 1000 Lo.length (v.length+1) cap),(1,.one (mag v)),(5,.one (i6 v.length)),(7,.one (ex (.int .u64 (g:Int)))),(9,.one (ex (.int .u64 (p.1.2.2:Int)))),(135,.one (i6 v.length)),(136,.one (i6 p.1.1))],[(1000,(Lo++((p.1.2.1++(N.drop p.1.1++[B-1]))++Hi)).map lb)]⟩) (fun p=>v.length-p.1.1) ⟨(0,[],0),Nat.zero_le _,SumInv.start N v⟩ ?_ ?_
    ·
     exact Sub.mk sJ sJ
    rintro⟨⟨k,A,ca⟩,hk2,hS⟩;simp only at hk2 hS;dsimp only;obtain⟨hAl,hAm,hca,_⟩:=id hS
    by_cases hkn2:k<v.length
    ·obtain⟨x,hx⟩:∃x,N[k]? =some x:=⟨_,List.getElem?_eq_getElem oM⟩
     obtain⟨y,hy⟩:∃y,v[k]? =some y:=⟨_,List.getElem?_eq_getElem oM⟩;have hxB:=hNm.get hx;have hyB:=hvm.get hy;have hS':=SumInv.step hNm hvm hS;rw[hx,hy,Option.getD_some,Option.getD_some] at hS';have hdr2:N.drop k=x::N.drop (k+1):=by rw[List.drop_eq_getElem_cons (by omega:k<N.length),(List.getElem?_eq_some_iff.1 hx).2]
     have hMx2:(A++(N.drop k++[B-1]))[k]? =some x:=by rw[List.getElem?_append_right oM,hAl,Nat.sub_self,hdr2];rfl
     have hget2:=rE (Lo:=Lo) (Hi:=Hi) hMx2;have hkl:k<v.length+1:=oM;have hsetl2:=bZX (Lo:=Lo) (Hi:=Hi) (List.getElem?_eq_some_iff.1 hMx2).1;have b2:decide ((k:Int)<(v.length:Int))=true:=decide_eq_true oM;have e11:IntKind.u64.wrap ((x:Int)+(y:Int))=(x:Int)+(y:Int):=fC oM oM;have e12:IntKind.u64.wrap ((ca:Int)+((x:Int)+(y:Int)))=((ca+x+y:Nat):Int):=by rw[fC oM oM];omega
     have hset2:((Lo++((A++(N.drop k++[B-1]))++Hi)).map lb).set (Lo.length+k) (ex (.int .u32 (((ca+x+y)%B:Nat):Int)))=(Lo++(((A++[(ca+x+y)%B])++(N.drop (k+1)++[B-1]))++Hi)).map lb:=by
      rw[hdr2];exact bZ1 Lo A (N.drop (k+1)++[B-1]) Hi x _ hAl
     have e13:IntKind.i64.wrap ((k:Int)+1)=((k+1:Nat):Int):=by rw[w64 oM oM];omega
     refine kR ?_;refine jS (bVl jj jj b2)<|jn ?_;refine kO ?_;refine WpD.condT rfl ?_;refine kO ?_;refine WpD.skip ?_;refine kR ?_;refine jm jj<|vZ jj ?_;refine kR ?_;refine vV jj jj<|jm jj<|jS (eO jj jj aO)<|jS (aX jj jj aM)<|jS (bCv jj (c64 _ hxB))<|vV jj jj<|jS (bY jj jj aM)<|vT jj<|jS (bCv jj (c64 _ hyB))<|vAd jj e11<|vAd jj e12<|vZ jj ?_;refine kR ?_;refine vV jj jj<|jm jj<|jS (bCv jj (nO _))<|jS (eO jj jj aO)<|jO (bX jj jj jj aM aM)<|jn ?_;refine kR ?_;refine jm jj<|jS (aH jj jj (fun w=>dF w _ _ _ _ _ _ _ aW) (dV (rV _)))<|vZ jj ?_;refine kR ?_;refine vAd jj e13<|jm jj<|jn ?_;refine⟨⟨(k+1,A++[(ca+x+y)%B],(ca+x+y)/B),hkn2,hS'⟩,?_,by simp only;omega⟩
     exact Sub.mk sJ sJ
    ·have b2:decide ((k:Int)<(v.length:Int))=false:=decide_eq_false oM
     have hkv2:k=v.length:=oM;subst hkv2;obtain⟨rfl,p2⟩:=r3 A ca hS;have hdr2:N.drop v.length=[]:=List.drop_eq_nil_of_le oM;have hMx2:(A++(N.drop v.length++[B-1]))[v.length]? =some (B-1):=by rw[List.getElem?_append_right oM,hAl,Nat.sub_self,hdr2];rfl
     have hget2:=rE (Lo:=Lo) (Hi:=Hi) hMx2;have hsetl2:=bZX (Lo:=Lo) (Hi:=Hi) (List.getElem?_eq_some_iff.1 hMx2).1;have e5:IntKind.u32.wrap ((1:Nat):Int)=((1:Nat):Int):=by rw[IntKind.wrap_u32];rfl
     have e6:IntKind.u32.wrap (((B-1:Nat):Int)+((1:Nat):Int))=((0:Nat):Int):=by rw[IntKind.wrap_u32,bM];rfl
     have hset2:((Lo++((A++(N.drop v.length++[B-1]))++Hi)).map lb).set (Lo.length+v.length) (ex (.int .u32 ((0:Nat):Int)))=(Lo++(pd (val u%val v) (v.length+1)++Hi)).map lb:=by
      rw[hdr2,List.nil_append,←p2];have:=bZ1 Lo A [] Hi (B-1) 0 hAl;rwa[List.append_nil] at this
     have e1':IntKind.u64.wrap ((g:Int)-1)=((val u/val v:Nat):Int):=by rw[fC oM oM];omega
     have hgw:((val u/val v%B:Nat):Int)=((val u/val v:Nat):Int):=by rw[Nat.mod_eq_of_lt K.qlt]
     refine kR ?_;refine jS (bVl jj jj b2)<|jn ?_;refine kO ?_;refine WpD.condF rfl ?_;refine kO ?_;refine WpD.exit ?_;refine kR ?_;refine vV jj jj<|jS (eO jj jj aO)<|jS (aX jj jj aM)<|jm jj<|jS (bCv jj e5)<|vAd jj e6<|jS (eO jj jj aO)<|jO (bX jj jj jj aM aM)<|jn ?_;refine kR ?_;refine jm jj<|vSu jj e1'<|jS (bCv jj ((nO _).trans hgw))<|vZ jj ?_;refine kO ?_;refine WpD.ret ?_;exact kC rfl rfl (PLe.refl _) trivial ⟨.inl pQ,trivial⟩
end
end
section
open Go.RowKit Limb
instance:CInt Tryz.prog 5 .u8:=⟨Tryz.underlying5⟩
def eZZ(j:Nat):Nat:=if j=0 then 0 else Nat.log2 j+1
def tabOK(S:ByteArray):Bool:=(List.range 256).all fun j=>match S.data[j]? with|some b=>Nat.beq b.toNat (eZZ j)|none=>false
theorem lZV{P:Program}(w:World){T:TypeId}(hT:P.underlying T=some .string){S:ByteArray}(hS:tabOK S=true)(k:IntKind){i:Nat}(hi:i<256):(Instr.index T (.string S) (.int k (i:Int))).run P w= .ok (.int .u8 ((eZZ i:Nat):Int)) w:=by
 have h:=List.all_eq_true.1 hS i (List.mem_range.2 hi);cases hb:S.data[i]? with
 |none=>rw[hb] at h;cases h
 |some b=>
  rw[hb] at h;have h:=Nat.eq_of_beq_eq_true h;have hlt:=(Array.getElem?_eq_some_iff.1 hb).1;have hs:S[i]? =some b:=by
   have:i<S.size:=hlt;rw[getElem?_pos S i this];have:=(Array.getElem?_eq_some_iff.1 hb).2;exact congrArg some this
  have h0:(0:Int)≤(i:Int):=Int.natCast_nonneg _;simp only[Instr.index,asIntOf,Sem.run_bind,Sem.run_pure,Result.andThen_ok,run_underlying hT,if_pos h0,Int.toNat_natCast,hs,h]
theorem yT{t k:Nat}(h:t/2^k≠0):Nat.log2 (t/2^k)+k=Nat.log2 t:=by
 have h1:=Nat.log2_self_le h;have h2:t/2^k<2^(Nat.log2 (t/2^k)+1):=Nat.lt_log2_self;generalize Nat.log2 (t/2^k)=l at*;have ht:t≠0:=by rintro rfl;simp at h
 symm
 rw[Nat.log2_eq_iff ht];rw[Nat.le_div_iff_mul_le (Nat.two_pow_pos k),←Nat.pow_add] at h1;rw[Nat.div_lt_iff_lt_mul (Nat.two_pow_pos k),←Nat.pow_add] at h2;exact⟨h1,by rw[show l+k+1=l+1+k by omega];exact h2⟩
theorem shrN(c k:Nat)(hk:k≤32):(c:Int).fdiv (2^(min ((k:Nat):Int).toNat IntKind.u32.bits))=((c/2^k:Nat):Int):=by
 rw[Int.toNat_natCast,show min k IntKind.u32.bits=k from Nat.min_eq_left hk]
 rw[Int.fdiv_eq_ediv_of_nonneg _ (by exact_mod_cast Nat.zero_le _)]
 norm_cast
section
variable(En:Ev)
theorem oZN(t:Nat)(ht0:t≠0)(hB:t<B):Fn PZ En 198 [lb t] (i6 ((Nat.log2 t+1:Nat):Int)):=by
 have hl:Nat.log2 t<32:=(Nat.log2_lt ht0).2 hB;rw[bM] at hB;refine aA Tryz.func198 rfl Tryz.ntmps198 rfl ?_;intro w0 h0;refine kR ?_;refine vZ jj ?_;refine WpD.cut (α:={p:Nat×Nat//p.1≠0∧p.1<65536∧Nat.log2 p.1+p.2=Nat.log2 t}) (fun p=>⟨[(0,.one (lb p.1.1)),(2,.one (i6 p.1.2))],[]⟩) ?_ ?_
 ·by_cases h:65536≤t
  ·have b1:decide ((t:Int)≥65536)=true:=decide_eq_true oM
   have e1:(t:Int).fdiv (2^(min (16:Int).toNat IntKind.u32.bits))=((t/65536:Nat):Int):=shrN t 16 oM;have hne:t/2^16≠0:=by
    have:(2:Nat)^16=65536:=by decide
    rw[this];omega
   refine kR ?_;refine jm jj<|jS (bVh jj jj b1)<|jn ?_;refine kO ?_;refine WpD.condT rfl ?_;refine kR ?_;refine jm jj<|jS (aH jj jj (fun w=>dF w _ _ _ _ _ _ _ aW) (dV e1))<|vZ jj ?_;refine kR ?_;refine vZ jj ?_;refine⟨⟨(t/65536,16),hne,by simp only;omega,yT (k:=16) hne⟩,?_⟩
   exact Sub.mk sJ sJ
  ·have b1:decide ((t:Int)≥65536)=false:=decide_eq_false oM
   refine kR ?_;refine jm jj<|jS (bVh jj jj b1)<|jn ?_;refine kO ?_;refine WpD.condF rfl ?_;refine kO ?_;refine WpD.skip ?_;refine⟨⟨(t,0),ht0,by simp only;omega,rfl⟩,?_⟩
   exact Sub.mk sJ sJ
 rintro⟨⟨x,n⟩,hx0,hx,hl2⟩;simp only at hx0 hx hl2;dsimp only;refine WpD.cut (α:={p:Nat×Nat//p.1≠0∧p.1<256∧Nat.log2 p.1+p.2=Nat.log2 t}) (fun p=>⟨[(0,.one (lb p.1.1)),(2,.one (i6 p.1.2))],[]⟩) ?_ ?_
 ·by_cases h:256≤x
  ·have b1:decide ((x:Int)≥256)=true:=decide_eq_true oM
   have e1:(x:Int).fdiv (2^(min (8:Int).toNat IntKind.u32.bits))=((x/256:Nat):Int):=shrN x 8 oM;have e2:IntKind.i64.wrap ((n:Int)+8)=((n+8:Nat):Int):=by rw[w64 oM oM];omega
   have hne:x/2^8≠0:=by
    have:(2:Nat)^8=256:=by decide
    rw[this];omega
   have hlg:=yT (k:=8) hne;refine kR ?_;refine jm jj<|jS (bVh jj jj b1)<|jn ?_;refine kO ?_;refine WpD.condT rfl ?_;refine kR ?_;refine jm jj<|jS (aH jj jj (fun w=>dF w _ _ _ _ _ _ _ aW) (dV e1))<|vZ jj ?_;refine kR ?_;refine jm jj<|vAd jj e2<|vZ jj ?_;refine⟨⟨(x/256,n+8),hne,by simp only;omega,by simp only;have:x/2^8=x/256:=rfl;rw[this] at hlg;omega⟩,?_⟩
   exact Sub.mk sJ sJ
  ·have b1:decide ((x:Int)≥256)=false:=decide_eq_false oM
   refine kR ?_;refine jm jj<|jS (bVh jj jj b1)<|jn ?_;refine kO ?_;refine WpD.condF rfl ?_;refine kO ?_;refine WpD.skip ?_;refine⟨⟨(x,n),hx0,by simp only;omega,hl2⟩,?_⟩
   exact Sub.mk sJ sJ
 clear hx0 hx hl2;rintro⟨⟨z,m⟩,hz0,hz,hl3⟩;simp only at hz0 hz hl3;dsimp only;have e2:IntKind.u8.wrap (z:Int)=(z:Int):=by rw[IntKind.wrap_u8];omega
 have h8:eZZ z=Nat.log2 z+1:=by unfold eZZ;rw[if_neg hz0]
 have e4:IntKind.i64.wrap ((eZZ z:Nat):Int)=((eZZ z:Nat):Int):=by rw[h8];exact w64 oM oM
 have e5:IntKind.i64.wrap ((m:Int)+((eZZ z:Nat):Int))=((Nat.log2 t+1:Nat):Int):=by rw[h8,w64 oM oM];omega
 refine kR ?_;refine vV jj jj<|jS (bCv jj e2)<|jS (oZ5 jj jj (fun w=>lZV w Tryz.underlying9 (by kernel_rfl) _ hz))<|jS (bCv jj e4)<|vAd jj e5<|vZ jj ?_
 refine kO ?_;refine WpD.ret ?_;exact rtT rfl jj
theorem nlz32(t:Nat)(h0:t≠0)(hB:t<B):Fn PZ En 188 [lb t] (i6 ((lz t:Nat):Int)):=by
 have C1:=oZN En t h0 hB;have hl:Nat.log2 t<32:=(Nat.log2_lt h0).2 hB;have e2:IntKind.i64.wrap (32-((Nat.log2 t+1:Nat):Int))=((lz t:Nat):Int):=by unfold lz;rw[w64 oM oM];omega
 refine aA Tryz.func188 rfl Tryz.ntmps188 rfl ?_;intro w0 h0;refine kR ?_;refine vZ jj ?_;refine kR ?_;refine jm jj<|vC C1 tA<|vSu jj e2<|vZ jj ?_;refine kO ?_;refine WpD.ret ?_;exact rtT rfl jj
def wK(x y:Nat):Pd:=dK [mag (aE (x/y)),mag (aE (x%y))]
theorem hZj(x y:Nat)(hx:(aE x).length≤549755813888)(hxy:x<y):Fn PZ En 170 [mag (aE x),mag (aE y)] (wK x y):=by
 have C1:=nC En (aE x) (aE y) oM (aJ _) (aJ _);rw[iY,if_pos hxy] at C1;have C2:=bZM En (aE x) (aJ _) oM;have b1:decide ((-1:Int)<0)=true:=by decide
 unfold wK;rw[Nat.div_eq_of_lt hxy,Nat.mod_eq_of_lt hxy];refine aA Tryz.func170 rfl Tryz.ntmps170 rfl ?_;intro w0 h0;refine kR ?_;refine ja jj<|vZ jj ?_;refine kR ?_;refine vV jj jj<|vC C1 tB<|jS (bVl jj jj b1)<|vZ jj ?_;refine kO ?_;refine WpD.condT rfl ?_;refine kR ?_;refine jm jj<|vC C2 tA<|ja jj<|vZ jj ?_;refine kO ?_;refine WpD.ret ?_;refine lB rfl (.tmp rfl) (.tmp rfl) ?_;rintro h v ⟨vs,rfl,ha⟩;obtain⟨u,w,rfl,h1,h2⟩:=ha.two;exact⟨_,rfl,pX _ _ h1,h2,trivial⟩
theorem fZq{x y:Nat}(h:y≤x):decide (gA (aE x) (aE y)<0)=false:=by
 rw[iY,if_neg oM];split<;>rfl
theorem hZg(x y:Nat)(hxy:y≤x)(hy:y≠0)(h2:(aE x).length≤2):Fn PZ En 170 [mag (aE x),mag (aE y)] (wK x y):=by
 have hl:=eC hxy;have C1:=nC En (aE x) (aE y) oM (aJ _) (aJ _);have C2:=aZG En (aE x) (aJ _) h2;have C3:=aZG En (aE y) (aJ _) oM;rw[aN] at C2 C3;have hxlt:x<18446744073709551616:=by
  have h1:=eJ x;have h3:B^(aE x).length≤B^2:=Nat.pow_le_pow_right dD h2;have e:B^2=18446744073709551616:=by decide
  omega
 have hq:x/y<18446744073709551616:=Nat.lt_of_le_of_lt (Nat.div_le_self _ _) hxlt;have hr:x%y<18446744073709551616:=Nat.lt_of_le_of_lt (Nat.mod_le _ _) hxlt;have C4:=kK En (x/y) hq;have C5:=kK En (x%y) hr;have b2:decide (((aE x).length:Int)≤2)=true:=decide_eq_true oM;have hy0:(y:Int)≠0:=oM;have e2:IntKind.u64.wrap ((x:Int).tdiv (y:Int))=((x/y:Nat):Int):=by
  rw[Int.tdiv_eq_ediv_of_nonneg (Int.natCast_nonneg _),←Int.natCast_ediv];exact fC (Int.natCast_nonneg _) (Int.ofNat_lt.2 hq)
 have e6:(x:Int).tmod (y:Int)=((x%y:Nat):Int):=by rw[Int.tmod_eq_emod_of_nonneg (Int.natCast_nonneg _),←Int.natCast_emod]
 refine aA Tryz.func170 rfl Tryz.ntmps170 rfl ?_;intro w0 h0;refine kR ?_;refine ja jj<|vZ jj ?_;refine kR ?_;refine vV jj jj<|vC C1 tB<|jS (bVl jj jj (fZq hxy))<|vZ jj ?_;refine kO ?_;refine WpD.condF rfl ?_;refine kR ?_;refine jm jj<|jE jj<|jS (bVe jj jj b2)<|vZ jj ?_;refine kO ?_;refine WpD.condT rfl ?_;refine kR ?_;refine jm jj<|vC C2 tA<|jm jj<|vC C3 tA<|ja jj<|vZ jj ?_;refine kR ?_;refine vV jj jj<|jS (bQu jj jj e2)<|vC C4 tA<|vV jj jj<|jS (bRe jj jj e6)<|vC C5 tA<|ja jj<|vZ jj ?_;refine kO ?_;refine WpD.ret ?_;exact lB rfl (.tmp rfl) (.tmp rfl) (PLe.refl _)
theorem hZi(x y:Nat)(hxy:y≤x)(hlen:(aE x).length≤549755813888)(h2:2<(aE x).length)(h1:(aE y).length=1):Fn PZ En 170 [mag (aE x),mag (aE y)] (wK x y):=by
 have hyB:y<B:=by have:=eJ y;rwa[h1,Nat.pow_one] at this
 have hy:y≠0:=by rintro rfl;simp[fQ] at h1
 have hyd:aE y=[y]:=by
  rw[dZ hy,Nat.mod_eq_of_lt hyB,Nat.div_eq_of_lt hyB,fQ]
 have hne:aE x≠[]:=by intro h;rw[h] at h2;simp at h2
 have C1:=nC En (aE x) (aE y) oM (aJ _) (aJ _);have C2:=qY En (aE x) hne oM;have C3:=dZr En (aE x) [] y (aE x).length oM (aJ _) oM hyB;rw[aN,List.append_nil,List.append_nil] at C3;have hqlt:x/y<B^(aE x).length:=Nat.lt_of_le_of_lt (Nat.div_le_self _ _) (eJ x);have C4:=iE En (pd (x/y) (aE x).length) (oZ _ _) (by rw[dO];omega)
 rw[mN _ _ hqlt] at C4;have hrlt:x%y<B:=Nat.lt_trans (Nat.mod_lt _ oM) hyB;have C5:=kK En (x%y) (by rw[bM] at hrlt;omega)
 have b2:decide (((aE x).length:Int)≤2)=false:=decide_eq_false oM;have b3:(((aE y).length:Int)==1)=true:=by rw[h1];rfl
 have hget:(aE y)[0]? =some y:=by rw[hyd];rfl
 have e3:IntKind.u64.wrap ((x%y:Nat):Int)=((x%y:Nat):Int):=fC (Int.natCast_nonneg _) (Int.ofNat_lt.2 (Nat.lt_trans hrlt aD));have hpl:PLe (eZj ((pd (x/y) (aE x).length).map lb) 0 (aE x).length (aE x).length) (mag (pd (x/y) (aE x).length)):=by
  have:=fI (l:=pd (x/y) (aE x).length) (cap:=(aE x).length) (by rw[dO];omega) (oZ _ _)
  rwa[dO] at this
 refine aA Tryz.func170 rfl Tryz.ntmps170 rfl ?_;intro w0 h0;refine kR ?_;refine ja jj<|vZ jj ?_;refine kR ?_;refine vV jj jj<|vC C1 tB<|jS (bVl jj jj (fZq hxy))<|vZ jj ?_;refine kO ?_;refine WpD.condF rfl ?_;refine kR ?_;refine jm jj<|jE jj<|jS (bVe jj jj b2)<|vZ jj ?_;refine kO ?_;refine WpD.condF rfl ?_;refine kR ?_;refine jm jj<|jE jj<|jS (bVq jj jj b3)<|vZ jj ?_;refine kO ?_;refine WpD.condT rfl ?_;refine kR ?_;refine jm jj<|jT (sA C2 jj tA jj jj)<|vZ jj ?_;refine kR ?_;refine vV jj jj<|jS (bY (i:=0) jj jj hget)<|vT jj<|jT (dI (fun _=>41) C3 ⟨⟨jj,oN⟩,jj,trivial⟩ tA jj jj jj)<|vZ jj ?_;refine WpD.sub (τ:=⟨[(4,.one (mag (pd (x/y) (aE x).length))),(8,.one (lb (x%y)))],[]⟩) ?_ ?_
 ·
  refine Sub.pub 41 rfl rfl ?_ ?_ rfl
  ·repeat(first|exact trivial|refine⟨.inl ⟨pK,trivial⟩,?_⟩|refine⟨.inl ⟨⟨_,rfl,rfl⟩,oN⟩,?_⟩|refine⟨.inl ⟨⟨_,rfl,rfl⟩,⟨oN,oN⟩⟩,?_⟩|refine⟨.inr (.inl ⟨_,_,_,_,rfl,rfl,hpl⟩),?_⟩|refine⟨.inr (.inr (.inl ⟨_,_,_,rfl,rfl,hpl⟩)),?_⟩)
  ·repeat(first|exact trivial|refine jz ?_|refine jy rfl ?_)
 refine kR ?_;refine jm jj<|vC C4 tA<|jm jj<|jS (bCv jj e3)<|vC C5 tA<|ja jj<|vZ jj ?_;refine kO ?_;refine WpD.ret ?_;exact lB rfl (.tmp rfl) (.tmp rfl) (PLe.refl _)
end
end
section
open Go.RowKit Limb
section
variable(En:Ev)
theorem iZN(n k cap:Nat)(hc:k≤cap):PLe (eZj ((pd n k).map lb) 0 k cap) (mag (pd n k)):=by
 have:=fI (l:=pd n k) (cap:=cap) (by rw[dO];exact hc) (oZ _ _)
 rwa[dO] at this
theorem hZh(x y:Nat)(hxy:y≤x)(hlen:(aE x).length≤549755813888)(h2:2<(aE x).length)(h1:2≤(aE y).length):Fn PZ En 170 [mag (aE x),mag (aE y)] (wK x y):=by
 have hy:y≠0:=by rintro rfl;simp[fQ] at h1
 have hle:=eC hxy;obtain⟨t,hget⟩:∃t,(aE y)[(aE y).length-1]? =some t:=⟨_,List.getElem?_eq_getElem oM⟩;have hlast:(aE y).getLast? =some t:=by rw[List.getLast?_eq_getElem?];exact hget
 have ht0:t≠0:=qF hlast;have htB:=(aJ y).get hget;obtain⟨hs,hn1,hn2⟩:=lZM ht0 htB;obtain⟨hVlt,hnorm⟩:=iZM hy hlast hn2 hn1;have C2:=nlz32 En t ht0 htB;generalize lz t=s at*;have C1:=nC En (aE x) (aE y) oM (aJ _) (aJ _);have C3:=nshl En (aE y) s oM (aJ _) hs;have C4:=dZn En (aE x) s oM (aJ _) hs;rw[aN] at C3 C4;have L0:=LdInv.start hy hle hs;have hV:0<y*2^s:=Nat.mul_pos oM (Nat.two_pow_pos s);obtain⟨V,hVV⟩:∃V,y*2^s=V:=⟨_,rfl⟩;obtain⟨X,hXX⟩:∃X,x*2^s=X:=⟨_,rfl⟩;have hdone:=fun {R qs:List Nat} (h:LdInv (x*2^s) (y*2^s) ((aE x).length+1) 0 R qs)=>LdInv.done oM h;rw[hVV] at C3 hV hVlt hnorm L0 hdone;rw[hXX] at C4 L0 hdone;have b2:decide (((aE x).length:Int)≤2)=false:=decide_eq_false oM;have b3:(((aE y).length:Int)==1)=false:=by rw[beq_eq_false_iff_ne];omega
 have e10:IntKind.i64.wrap (((aE y).length:Int)-1)=(((aE y).length-1:Nat):Int):=by rw[w64 oM oM];omega
 have hsl:(aE y).length≤(pd V ((aE y).length+1)).length:=by rw[dO];omega
 have e13:IntKind.i64.wrap (((aE x).length:Int)-((aE y).length:Int))=(((aE x).length-(aE y).length:Nat):Int):=by rw[w64 oM oM];omega
 have e14:IntKind.i64.wrap ((((aE x).length-(aE y).length:Nat):Int)+1)=(((aE x).length-(aE y).length+1:Nat):Int):=by rw[w64 oM oM];omega
 refine aA Tryz.func170 rfl Tryz.ntmps170 rfl ?_;intro w0 h0;refine kR ?_;refine ja jj<|vZ jj ?_;refine kR ?_;refine vV jj jj<|vC C1 tB<|jS (bVl jj jj (fZq hxy))<|vZ jj ?_;refine kO ?_;refine WpD.condF rfl ?_;refine kR ?_;refine jm jj<|jE jj<|jS (bVe jj jj b2)<|vZ jj ?_;refine kO ?_;refine WpD.condF rfl ?_;refine kR ?_;refine jm jj<|jE jj<|jS (bVq jj jj b3)<|vZ jj ?_;refine kO ?_;refine WpD.condF rfl ?_;refine kO ?_;refine WpD.skip ?_;refine kR ?_;refine vV jj jj<|jE jj<|vSu jj e10<|jS (bY jj jj aM)<|vT jj<|vC C2 tA<|vZ jj ?_;refine kR ?_;refine vV jj jj<|vC C3 tB<|jm jj<|jE jj<|jS (aZ8 jj jj hsl)<|vZ jj ?_;rw[fZV];refine kR ?_;refine vV jj jj<|jT (sA C4 jj tB jj jj)<|vZ jj ?_;refine kR ?_;refine jm jj<|jE jj<|jm jj<|jE jj<|vSu jj e13<|vAd jj e14<|jT (nT jj jj jj jj oM oM)<|vZ jj ?_;refine kR ?_;refine jm jj<|jE jj<|jm jj<|jE jj<|vSu jj e13<|vZ jj ?_;refine kO ?_;refine WpD.loop (α:={p:Nat×List Nat×List Nat//p.1≤(aE x).length-(aE y).length+1∧LdInv X V ((aE x).length+1) p.1 p.2.1 p.2.2∧p.2.2.length=(aE x).length-(aE y).length+1-p.1}) (fun p=>⟨[(1,.one (mag (aE y))),(4,.own 74 0 ((aE x).length-(aE y).length+1) ((aE x).length-(aE y).length+1)),(9,.one (i6 s)),(10,.one (mag (pd V (aE y).length))),(11,.own 67 0 ((aE x).length+1) ((aE x).length+1)),(12,.one (i6 ((p.1.1:Int)-1)))],[(74,(List.replicate p.1.1 0++p.1.2.2).map lb),(67,p.1.2.1.map lb)]⟩) (fun p=>p.1.1) ⟨((aE x).length-(aE y).length+1,pd X ((aE x).length+1),[]),Nat.le_refl _,L0,by simp⟩ ?_ ?_
 ·have hz:List.replicate ((aE x).length-(aE y).length+1) (ex (.int .u32 0))=(List.replicate ((aE x).length-(aE y).length+1) 0++[]).map lb:=by rw[qR,List.append_nil]
  have hw:((((aE x).length-(aE y).length:Nat):Int))=(((aE x).length-(aE y).length+1:Nat):Int)-1:=oM;rw[hw];exact Sub.mk sJ ⟨.inl ⟨_,jj,PsLe.of_eq hz⟩,.inl pQ,trivial⟩
 rintro⟨⟨k,R,qs⟩,hk,hI,hql⟩;simp only at hk hI hql;dsimp only;cases k with
 |zero=>
  obtain⟨d1,d2⟩:=hdone hI;obtain⟨hRl,hRm,hqm,_,_⟩:=hI;have b4:decide ((((0:Nat):Int)-1)≥0)=false:=by decide
  have C6:=nshr En R [] s ((aE x).length+1) oM hRm hs;rw[List.append_nil,List.append_nil,hRl,d2] at C6;have C7:=iE En qs hqm oM;rw[d1] at C7;have hrl:x%y<B^((aE x).length+1):=Nat.lt_of_le_of_lt (Nat.mod_le _ _) (Nat.lt_of_lt_of_le (eJ x) (Nat.pow_le_pow_right dD oM));have C8:=iE En (pd (x%y) ((aE x).length+1)) (oZ _ _) (by rw[dO];omega)
  rw[mN _ _ hrl] at C8;rw[List.replicate_zero,List.nil_append];have hp1:PLe (eZj (qs.map lb) 0 ((aE x).length-(aE y).length+1) ((aE x).length-(aE y).length+1)) (mag qs):=by
   have:=fI (l:=qs) (cap:=(aE x).length-(aE y).length+1) oM hqm;rwa[hql] at this
  have hp2:=iZN (x%y) ((aE x).length+1) ((aE x).length+1) (Nat.le_refl _);refine kR ?_;refine jm jj<|jS (bVh jj jj b4)<|jn ?_;refine kO ?_;refine WpD.condF rfl ?_;refine kO ?_;refine WpD.exit ?_;refine kR ?_;refine vV jj jj<|jT (dI (fun _=>67) C6 ⟨⟨jj,oN⟩,jj,trivial⟩ tA jj jj jj)<|jn ?_;refine WpD.sub (τ:=⟨[(4,.one (mag qs)),(11,.own 67 0 ((aE x).length+1) ((aE x).length+1))],[(67,(pd (x%y) ((aE x).length+1)).map lb)]⟩) ?_ ?_
  ·
   refine Sub.pub 74 rfl rfl ?_ ⟨.inl pQ,trivial⟩ rfl;repeat(first|exact trivial|refine⟨.inl ⟨pK,trivial⟩,?_⟩|refine⟨.inl ⟨⟨_,rfl,rfl⟩,oN⟩,?_⟩|refine⟨.inl ⟨⟨_,rfl,rfl⟩,⟨oN,oN⟩⟩,?_⟩|refine⟨.inr (.inl ⟨_,_,_,_,rfl,rfl,hp1⟩),?_⟩|refine⟨.inr (.inr (.inl ⟨_,_,_,rfl,rfl,hp1⟩)),?_⟩)
  refine WpD.sub (τ:=⟨[(4,.one (mag qs)),(11,.one (mag (pd (x%y) ((aE x).length+1))))],[]⟩) ?_ ?_
  ·
   refine Sub.pub 67 rfl rfl ?_ ?_ rfl
   ·repeat(first|exact trivial|refine⟨.inl ⟨pK,trivial⟩,?_⟩|refine⟨.inl ⟨⟨_,rfl,rfl⟩,oN⟩,?_⟩|refine⟨.inl ⟨⟨_,rfl,rfl⟩,⟨oN,oN⟩⟩,?_⟩|refine⟨.inr (.inl ⟨_,_,_,_,rfl,rfl,hp2⟩),?_⟩|refine⟨.inr (.inr (.inl ⟨_,_,_,rfl,rfl,hp2⟩)),?_⟩)
   ·repeat(first|exact trivial|refine jz ?_|refine jy rfl ?_)
  refine kR ?_;refine jm jj<|vC C7 tA<|jm jj<|vC C8 tA<|ja jj<|vZ jj ?_;refine kO ?_;refine WpD.ret ?_;exact lB rfl (.tmp rfl) (.tmp rfl) (PLe.refl _)
 |succ j=>
  obtain⟨hRl,hRm,hqm,_,_⟩:=id hI;obtain⟨Lo,u,Hi,hR,hLo,hul⟩:∃Lo u Hi,R=Lo++(u++Hi)∧Lo.length=j∧u.length=(aE y).length+1:=by
   refine⟨R.take j,(R.drop j).take ((aE y).length+1),(R.drop j).drop ((aE y).length+1),?_,by simp;omega,by simp;omega⟩
   rw[List.take_append_drop,List.take_append_drop]
  subst hR;have hVu:V<B^(u.length-1):=by rw[hul,Nat.add_sub_cancel];exact hVlt
  obtain⟨hult,hI'⟩:=hI.step hV hLo hVu oM;have hum:Lm u:=hRm.sub fun z hz=>by simp[hz]
  have hvl:=dO V (aE y).length;have hvv:=mN V (aE y).length hVlt;have C5:=nstep En Lo u Hi (pd V (aE y).length) ((aE x).length+1-j) (by rw[hvl];omega) (by rw[hvl];exact h1) (by rw[hvl];exact hul) hum (oZ _ _) (by rw[hvl];exact hnorm) (by rw[hvv];exact hult)
  have e20:(aE y).length+1=j+(aE y).length+1-j:=oM;have hLo':Lo.length=0+j:=oM;rw[hvl,hvv,e20,hLo'] at C5;have b4:decide ((j:Int)≥0)=true:=decide_eq_true oM;have e7:IntKind.i64.wrap ((j:Int)+((aE y).length:Int))=(j:Int)+((aE y).length:Int):=w64 oM oM;have e8:IntKind.i64.wrap ((j:Int)+((aE y).length:Int)+1)=((j+(aE y).length+1:Nat):Int):=by rw[w64 oM oM];omega
  have hjl:j<(aE x).length-(aE y).length+1:=oM;have hsetl:j<((List.replicate (j+1) 0++qs).map lb).length:=by simp;omega
  have hset:((List.replicate (j+1) 0++qs).map lb).set j (lb (val u/V))=(List.replicate j 0++(val u/V::qs)).map lb:=by
   have:=bZ2 (List.replicate j 0) qs 0 (val u/V);rw[List.length_replicate] at this;rw[List.replicate_succ'];simp only[List.append_assoc,List.cons_append,List.nil_append] at this ⊢;exact this
  have e9:IntKind.i64.wrap ((j:Int)-1)=(j:Int)-1:=w64 oM oM;rw[show(((j+1:Nat):Int)-1)=(j:Int) by omega]
  refine kR ?_;refine jm jj<|jS (bVh jj jj b4)<|jn ?_;refine kO ?_;refine WpD.condT rfl ?_;refine kO ?_;refine WpD.skip ?_;refine kR ?_;refine vV jj jj<|vV jj jj<|vV jj jj<|jE jj<|vAd jj e7<|vAd jj e8<|jS (xT jj jj jj oM oM oM)<|jm jj<|jT (dI (fun _=>67) C5 ⟨⟨jj,oN⟩,jj,trivial⟩ tA jj jj jj)<|jS (dN jj jj aO)<|jO (bX jj jj jj aM aM)<|jn ?_;refine kR ?_;refine jm jj<|vSu jj e9<|vZ jj ?_;rw[hul] at hI';refine⟨⟨(j,Lo++(pd (val u%V) ((aE y).length+1)++Hi),val u/V::qs),by simp only;omega,hI',by simp only[List.length_cons];omega⟩,?_,Nat.lt_succ_self j⟩
  have hz:(Lo++(pd (val u%V) (j+(aE y).length+1-j)++Hi)).map lb=(Lo++(pd (val u%V) ((aE y).length+1)++Hi)).map lb:=by rw[←e20]
  exact Sub.mk sJ ⟨.inl pQ,.inl ⟨_,jj,PsLe.of_eq hz⟩,trivial⟩
theorem ndiv(x y:Nat)(hlen:(aE x).length≤549755813888)(hy:y≠0):Fn PZ En 170 [mag (aE x),mag (aE y)] (wK x y):=by
 by_cases h1:x<y
 ·exact hZj En x y hlen h1
 ·by_cases h2:(aE x).length≤2
  ·exact hZg En x y oM hy h2
  ·by_cases h3:(aE y).length=1
   ·exact hZi En x y oM hlen oM h3
   ·have:1≤(aE y).length:=by rw[dZ hy];simp
    exact hZh En x y oM hlen oM oM
end
end
section
open Go.RowKit Limb
instance:CRow Tryz.prog 32 2:=⟨⟨_,Tryz.underlying32,rfl,by kernel_rfl⟩⟩
instance:CField Tryz.prog 32 0 0:=⟨⟨_,_,Tryz.underlying32,rfl,rfl,by kernel_rfl⟩⟩
instance:CField Tryz.prog 32 1 1:=⟨⟨_,_,Tryz.underlying32,rfl,rfl,by kernel_rfl⟩⟩
instance:CFieldT Tryz.prog 32 0 0 4:=⟨⟨_,_,Tryz.underlying32,rfl,rfl,rfl⟩⟩
instance:CFieldT Tryz.prog 32 1 1 30:=⟨⟨_,_,Tryz.underlying32,rfl,rfl,rfl⟩⟩
theorem cZ9:gR Tryz.prog 32 [.bool false,.slice none 0 0]:=⟨by kernel_rfl,by simp[Value.oneCell']⟩
instance:CZero Tryz.prog 32 [.bool false,.slice none 0 0]:=⟨cZ9⟩
instance:CStruct Tryz.prog 32 [(0,1),(1,1)] [.bool false,.slice none 0 0]:=⟨⟨cZ9,_,Tryz.underlying32,fun _=>by kernel_rfl⟩⟩
instance kb96:CBody PZ 96:=cB Tryz.func96
instance kb73:CBody PZ 73:=cB Tryz.func73
instance kb40:CBody PZ 40:=cB Tryz.func40
instance kb39:CBody PZ 39:=cB Tryz.func39
instance kb132:CBody PZ 132:=cB Tryz.func132
section
variable(En:Ev)
theorem jM(s:Bool)(n:Nat):Fn PZ En 96 [ex (.bool s),mag (aE n)] (zC (aT s n)):=by
 have hb:=uN n
 by_cases hn:n=0
 ·subst hn
  have e:aT s 0=0:=by unfold aT;cases s<;>rfl
  rw[e];rw[decide_eq_true rfl] at hb;refine aA Tryz.func96 rfl Tryz.ntmps96 rfl ?_;intro w0 h0;refine kR ?_;refine vA jj<|jn ?_;refine kR ?_;refine jm jj<|jE jj<|jS (bVq jj jj hb)<|jn ?_;refine kO ?_;refine WpD.condT rfl ?_;refine kR ?_;refine jS (aU (ps:=[]) trivial jj)<|vP jj<|jn ?_;refine kO ?_;refine WpD.ret ?_;exact wD rfl (.cell rfl rfl CRow.ok rfl) eZx
 ·rw[decide_eq_false hn] at hb
  rw[oZi hn];refine aA Tryz.func96 rfl Tryz.ntmps96 rfl ?_;intro w0 h0;refine kR ?_;refine vA jj<|jn ?_;refine kR ?_;refine jm jj<|jE jj<|jS (bVq jj jj hb)<|jn ?_;refine kO ?_;refine WpD.condF rfl ?_;refine kO ?_;refine WpD.skip ?_;refine kR ?_;refine vV jj jj<|jS (aU (ps:=[(_,_),(_,_)]) ⟨jj,Part.c jj,jj,Part.c jj,trivial⟩ jj)<|vP jj<|jn ?_;refine kO ?_;refine WpD.ret ?_;exact rtC rfl jj jj
theorem jZ5(n:Int)(h1: -9223372036854775808≤n)(h2:n≤9223372036854775807):Fn PZ En 73 [i6 n] (zC n):=by
 by_cases hn:n<0
 ·have b1:decide (n<0)=true:=decide_eq_true hn
  have e1:IntKind.u64.wrap n=n+18446744073709551616:=by rw[IntKind.wrap_u64];omega
  have e2:IntKind.u64.wrap (-(n+18446744073709551616))=(n.natAbs:Int):=by rw[IntKind.wrap_u64];omega
  have C1:=kK En n.natAbs oM;have C2:=jM En true n.natAbs;rw[show aT true n.natAbs=n by unfold aT;simp;omega] at C2
  refine aA Tryz.func73 rfl Tryz.ntmps73 rfl ?_;intro w0 h0;refine kR ?_;refine vA jj<|jn ?_;refine kR ?_;refine jm jj<|jS (bVl jj jj b1)<|jn ?_;refine kO ?_;refine WpD.condT rfl ?_;refine kR ?_;refine jm jj<|jS (bCv jj e1)<|jS (gN jj (fun w=>fO w _ _) (dV e2))<|vC C1 tA<|vC C2 tB<|vP jj<|jn ?_;refine kO ?_;refine WpD.ret ?_;exact rtC rfl jj jj
 ·have b1:decide (n<0)=false:=decide_eq_false hn
  have e1:IntKind.u64.wrap n=(n.natAbs:Int):=by rw[IntKind.wrap_u64];omega
  have C1:=kK En n.natAbs oM;have C2:=jM En false n.natAbs;rw[show aT false n.natAbs=n by unfold aT;simp;omega] at C2
  refine aA Tryz.func73 rfl Tryz.ntmps73 rfl ?_;intro w0 h0;refine kR ?_;refine vA jj<|jn ?_;refine kR ?_;refine jm jj<|jS (bVl jj jj b1)<|jn ?_;refine kO ?_;refine WpD.condF rfl ?_;refine kO ?_;refine WpD.skip ?_;refine kR ?_;refine jm jj<|jS (bCv jj e1)<|vC C1 tA<|vC C2 tB<|vP jj<|jn ?_;refine kO ?_;refine WpD.ret ?_;exact rtC rfl jj jj
theorem zB(s:Bool)(l:List Nat)(hl:Lm l)(hlen:l.length≤1099511627776):Fn PZ En 40 [zR s l] (i6 (sg3 (zv s l))):=by
 have C1:=iE En l hl hlen;unfold zv;generalize val l=n at*;have hb:=uN n
 by_cases hn:n=0
 ·subst hn
  rw[decide_eq_true rfl] at hb;rw[show sg3 (aT s 0)=0 by cases s<;>rfl]
  refine aA Tryz.func40 rfl Tryz.ntmps40 rfl ?_;intro w0 h0;refine kR ?_;refine vB jj<|vZ jj ?_;refine kR ?_;refine vX jj<|vC C1 tA<|jE jj<|jS (bVq jj jj hb)<|vZ jj ?_;refine kO ?_;refine WpD.condT rfl ?_;refine kR ?_;refine vZ jj ?_;refine kO ?_;refine WpD.ret ?_;exact rtT rfl jj
 ·rw[decide_eq_false hn] at hb
  cases s with
  |true=>
   rw[show sg3 (aT true n)= -1 by unfold sg3 aT;simp;omega]
   refine aA Tryz.func40 rfl Tryz.ntmps40 rfl ?_;intro w0 h0;refine kR ?_;refine vB jj<|vZ jj ?_;refine kR ?_;refine vX jj<|vC C1 tA<|jE jj<|jS (bVq jj jj hb)<|vZ jj ?_;refine kO ?_;refine WpD.condF rfl ?_;refine kR ?_;refine vX jj<|vZ jj ?_;refine kO ?_;refine WpD.condT rfl ?_;refine kR ?_;refine vZ jj ?_;refine kO ?_;refine WpD.ret ?_;exact rtT rfl jj
  |false=>
   rw[show sg3 (aT false n)=1 by unfold sg3 aT;simp;omega]
   refine aA Tryz.func40 rfl Tryz.ntmps40 rfl ?_;intro w0 h0;refine kR ?_;refine vB jj<|vZ jj ?_;refine kR ?_;refine vX jj<|vC C1 tA<|jE jj<|jS (bVq jj jj hb)<|vZ jj ?_;refine kO ?_;refine WpD.condF rfl ?_;refine kR ?_;refine vX jj<|vZ jj ?_;refine kO ?_;refine WpD.condF rfl ?_;refine kO ?_;refine WpD.skip ?_;refine kR ?_;refine vZ jj ?_;refine kO ?_;refine WpD.ret ?_;exact rtT rfl jj
theorem imul(s:Bool)(l:List Nat)(s':Bool)(l':List Nat)(hl:Lm l)(hl':Lm l')(hlen:l.length≤274877906944)(hlen':l'.length≤274877906944):
  Fn PZ En 39 [zR s l,zR s' l'] (zC (zv s l*zv s' l')):=by
 have C1:=iE En l hl oM;have C2:=iE En l' hl' oM;have D1:=eK hlen hl;have D2:=eK hlen' hl';unfold zv;rw[cZP];generalize val l=x at*;generalize val l'=y at*;have C3:=nmul En (aE x) (aE y) D1 D2 (aJ _) (aJ _);rw[aN,aN] at C3;have C4:=jM En (s !=s') (x*y);refine aA Tryz.func39 rfl Tryz.ntmps39 rfl ?_;intro w0 h0;refine kR ?_;refine vB jj<|vB jj<|vA jj<|jn ?_;refine kR ?_;refine vX jj<|vX jj<|jS (aY jj jj (fun w=>nR w CBool.ok _ _ _ _))<|vX jj<|vC C1 tA<|vX jj<|vC C2 tA<|vC C3 tB<|vC C4 tB<|vP jj<|jn ?_;refine kO ?_;refine WpD.ret ?_;exact rtC rfl jj jj
theorem gZl(s:Bool)(l:List Nat)(s':Bool)(l':List Nat)(hl:Lm l)(hl':Lm l')(hlen:l.length≤274877906944)(hlen':l'.length≤274877906944)(hy:zv s' l'≠0):
  Fn PZ En 132 [zR s l,zR s' l'] (dK [zC (zv s l/zv s' l'),zC (zv s l%zv s' l'),ex (.bool true)]):=by
 have C1:=iE En l' hl' oM;have C2:=iE En l hl oM;have D1:=eK hlen hl;have D2:=eK hlen' hl';unfold zv at hy ⊢;generalize val l=x at*;generalize val l'=y at*;have hy0:y≠0:=by rintro rfl;apply hy;cases s'<;>rfl
 have C3:=ndiv En x y oM hy0;unfold wK at C3;have b1:=uN y;rw[decide_eq_false hy0] at b1;have Q1:(aE (x/y)).length≤274877906944:=Nat.le_trans (eC (Nat.div_le_self _ _)) D1;have hlt:=Nat.mod_lt x (Nat.pos_of_ne_zero hy0);have C5:=jM En false (x%y);have e5:aT false (x%y)=((x%y:Nat):Int):=rfl;rw[e5] at C5;cases s with
 |false=>
  have C4:=jM En s' (x/y);obtain⟨e1,e2⟩:=iZu (s:=false) (s':=s') hy0 (.inl rfl);rw[e1,e2,Bool.false_bne];refine aA Tryz.func132 rfl Tryz.ntmps132 rfl ?_;intro w0 h0;refine kR ?_;refine vB jj<|vB jj<|vA jj<|vA jj<|vZ jj ?_;refine kR ?_;refine vX jj<|vC C1 tA<|vZ jj ?_;refine kR ?_;refine jm jj<|jE jj<|jS (bVq jj jj b1)<|jn ?_;refine kO ?_;refine WpD.condF rfl ?_;refine kO ?_;refine WpD.skip ?_;refine kR ?_;refine vX jj<|vC C2 tA<|jm jj<|vC C3 tB<|jm jj<|vE jj<|vE jj<|ja jj<|vZ jj ?_;refine kR ?_;refine vX jj<|vZ jj ?_;refine kR ?_;refine vX jj<|jm jj ?_;refine kG ?_;first|refine jg (dQ jj CSlice.ok) ?_|refine jk ?_
  first|refine jg (aY jj jj (fun w=>nS w _ _ _ _ _ _)) ?_|refine jk ?_
  refine kH ?_;refine vZ jj ?_;refine kO ?_;refine WpD.condF rfl ?_;refine kO ?_;refine WpD.skip ?_;refine kR ?_;refine vX jj<|vZ jj ?_;refine kO ?_;refine WpD.condF rfl ?_;refine kO ?_;refine WpD.skip ?_;refine kO ?_;refine WpD.exit ?_;refine kR ?_;refine vV jj jj<|vC C4 tB<|jm jj<|vC C5 tB<|vP jj<|vP jj<|vZ jj ?_;refine kO ?_;refine WpD.ret ?_;exact dZb rfl (.cell rfl rfl CRow.ok rfl) (.cell rfl rfl CRow.ok rfl) (.tmp rfl) (PLe.refl _)
 |true=>
  by_cases hr:x%y=0
  ·have b2:decide (((aE (x%y)).length:Int)>0)=false:=by rw[hr];rfl
   have C4:=jM En (!s') (x/y);obtain⟨e1,e2⟩:=iZu (s:=true) (s':=s') hy0 (.inr hr);rw[e1,e2,Bool.true_bne];refine aA Tryz.func132 rfl Tryz.ntmps132 rfl ?_;intro w0 h0;refine kR ?_;refine vB jj<|vB jj<|vA jj<|vA jj<|vZ jj ?_;refine kR ?_;refine vX jj<|vC C1 tA<|vZ jj ?_;refine kR ?_;refine jm jj<|jE jj<|jS (bVq jj jj b1)<|jn ?_;refine kO ?_;refine WpD.condF rfl ?_;refine kO ?_;refine WpD.skip ?_;refine kR ?_;refine vX jj<|vC C2 tA<|jm jj<|vC C3 tB<|jm jj<|vE jj<|vE jj<|ja jj<|vZ jj ?_;refine kR ?_;refine vX jj<|vZ jj ?_;refine kR ?_;refine vX jj<|jm jj ?_;refine kG ?_;first|refine jg (dQ jj CSlice.ok) ?_|refine jk ?_
   first|refine jg (bVg jj jj b2) ?_|refine jk ?_
   refine kH ?_;refine vZ jj ?_;refine kO ?_;refine WpD.condF rfl ?_;refine kO ?_;refine WpD.skip ?_;refine kR ?_;refine vX jj<|vZ jj ?_;refine kO ?_;refine WpD.condT rfl ?_;refine kO ?_;refine WpD.exit ?_;refine kR ?_;refine jm jj<|jS (bNo jj)<|vZ jj ?_;refine kO ?_;refine WpD.exit ?_;refine kR ?_;refine vV jj jj<|vC C4 tB<|jm jj<|vC C5 tB<|vP jj<|vP jj<|vZ jj ?_;refine kO ?_;refine WpD.ret ?_;exact dZb rfl (.cell rfl rfl CRow.ok rfl) (.cell rfl rfl CRow.ok rfl) (.tmp rfl) (PLe.refl _)
  ·have b2:decide (((aE (x%y)).length:Int)>0)=true:=by rw[dZ hr];simp
   have hlm1:Lm [1]:=Lm.cons (by rw[bM];omega) Lm.nil
   have C6:=nadd En (aE (x/y)) [1] oM (by simp) (aJ _) hlm1
   rw[aN,show val [1]=1 by rfl] at C6
   have C7:=nsub En (aE y) (aE (x%y)) oM (eC oM) (aJ _) (aJ _) (by rw[aN,aN];omega)
   rw[aN,aN] at C7;have C4:=jM En (!s') (x/y+1);have C8:=jM En false (y-x%y);rw[show aT false (y-x%y)=((y-x%y:Nat):Int) from rfl] at C8
   obtain⟨e1,e2⟩:=iZv (s':=s') hy0 hr;rw[e1,e2];refine aA Tryz.func132 rfl Tryz.ntmps132 rfl ?_;intro w0 h0;refine kR ?_;refine vB jj<|vB jj<|vA jj<|vA jj<|vZ jj ?_;refine kR ?_;refine vX jj<|vC C1 tA<|vZ jj ?_;refine kR ?_;refine jm jj<|jE jj<|jS (bVq jj jj b1)<|jn ?_;refine kO ?_;refine WpD.condF rfl ?_;refine kO ?_;refine WpD.skip ?_;refine kR ?_;refine vX jj<|vC C2 tA<|jm jj<|vC C3 tB<|jm jj<|vE jj<|vE jj<|ja jj<|vZ jj ?_;refine kR ?_;refine vX jj<|vZ jj ?_;refine kR ?_;refine vX jj<|jm jj ?_;refine kG ?_;first|refine jg (dQ jj CSlice.ok) ?_|refine jk ?_
   first|refine jg (bVg jj jj b2) ?_|refine jk ?_
   refine kH ?_;refine vZ jj ?_;refine kO ?_;refine WpD.condT rfl ?_;refine kO ?_;refine WpD.exit ?_;refine kR ?_;refine jm jj<|jS (aZ9 (l:=[1]) tB jj jj jj hlm1)<|vC C6 tB<|vZ jj ?_;refine kR ?_;refine vV jj jj<|vC C7 tB<|vZ jj ?_;refine kR ?_;refine jm jj<|jS (bNo jj)<|vZ jj ?_;refine kO ?_;refine WpD.exit ?_;refine kR ?_;refine vV jj jj<|vC C4 tB<|jm jj<|vC C8 tB<|vP jj<|vP jj<|vZ jj ?_;refine kO ?_;refine WpD.ret ?_;exact dZb rfl (.cell rfl rfl CRow.ok rfl) (.cell rfl rfl CRow.ok rfl) (.tmp rfl) (PLe.refl _)
end
end
section
open Go.RowKit Limb
instance kb60:CBody PZ 60:=cB Tryz.func60
instance kb123:CBody PZ 123:=cB Tryz.func123
instance kb45:CBody PZ 45:=cB Tryz.func45
instance kb66:CBody PZ 66:=cB Tryz.func66
instance kb62:CBody PZ 62:=cB Tryz.func62
instance kb153:CBody PZ 153:=cB Tryz.func153
instance kb162:CBody PZ 162:=cB Tryz.func162
instance kb163:CBody PZ 163:=cB Tryz.func163
instance kb180:CBody PZ 180:=cB Tryz.func180
instance kb61:CBody PZ 61:=cB Tryz.func61
instance kb122:CBody PZ 122:=cB Tryz.func122
instance kb64:CBody PZ 64:=cB Tryz.func64
instance kb161:CBody PZ 161:=cB Tryz.func161
instance kb121:CBody PZ 121:=cB Tryz.func121
instance kb152:CBody PZ 152:=cB Tryz.func152
instance kb63:CBody PZ 63:=cB Tryz.func63
instance kb108:CBody PZ 108:=cB Tryz.func108
instance kb20:CBody PZ 20:=cB Tryz.func20
theorem hZD(a:Nat):IntKind.u32.wrap ((BitVec.ofInt IntKind.u32.bits (a:Int)&&&BitVec.ofInt IntKind.u32.bits 1).toNat:Int)=((a%2:Nat):Int):=by
 have h1:(BitVec.ofInt 32 (a:Int)&&&BitVec.ofInt 32 1).toNat=a%2:=by
  rw[BitVec.toNat_and,BitVec.ofInt_natCast,BitVec.toNat_ofNat,show(BitVec.ofInt 32 1).toNat=1 by decide,Nat.and_one_is_mod]
  omega
 show IntKind.u32.wrap (((BitVec.ofInt 32 (a:Int)&&&BitVec.ofInt 32 1).toNat:Nat):Int)=_
 rw[h1,IntKind.wrap_u32];omega
theorem iZP{a c e:Nat}(ha:a=2^(e+1)*c)(hlt:a+2^e<B):IntKind.u32.wrap ((BitVec.ofInt IntKind.u32.bits (a:Int)|||BitVec.ofInt IntKind.u32.bits ((2^e:Nat):Int)).toNat:Int)=((a+2^e:Nat):Int):=by
 rw[gZI] at hlt;have hB:(2:Nat)^32=4294967296:=by decide
 have hp:=Nat.two_pow_pos e;have h1:(BitVec.ofInt 32 (a:Int)).toNat=a:=by rw[BitVec.ofInt_natCast,BitVec.toNat_ofNat];exact Nat.mod_eq_of_lt oM
 have h2:(BitVec.ofInt 32 ((2^e:Nat):Int)).toNat=2^e:=by rw[BitVec.ofInt_natCast,BitVec.toNat_ofNat];exact Nat.mod_eq_of_lt oM
 have h3:a|||2^e=a+2^e:=by rw[ha,←Nat.two_pow_add_eq_or_of_lt (Nat.pow_lt_pow_right aD (Nat.lt_succ_self e))]
 show IntKind.u32.wrap (((BitVec.ofInt 32 (a:Int)|||BitVec.ofInt 32 ((2^e:Nat):Int)).toNat:Nat):Int)=_
 rw[BitVec.toNat_or,h1,h2,h3,IntKind.wrap_u32];omega
theorem mZy{r b k:Nat}(hb:b≤1)(h:(aE r).length≤k):(aE (2*r+b)).length≤k+1:=by
 refine cN ?_;have a1:=eJ r;have a2:B^(aE r).length≤B^k:=Nat.pow_le_pow_right dD h;rw[Nat.pow_succ,bM] at*;generalize 4294967296^k=Z at*;omega
section
variable(En:Ev)
theorem dZE(x k:Nat)(hk:k≤1099511627776):Fn PZ En 60 [hZb x k] (mag (aE x)):=by
 intro h w vs he hh ha;obtain⟨v,rfl,l,h1,h2,h3⟩:=ha.one;subst h1;exact qQ En l oM h w [v] he hh ⟨h3,trivial⟩
theorem mZk(l:List Nat)(c0:Nat)(hl:l.length≤1099511627776)(hc:c0≤1):Fn PZ En 180 [mag l,ex (.int .u32 (c0:Int))] (hZb (2*val l+c0) (l.length+1)):=by
 intro h w vs _ hh ha;obtain⟨v,u,rfl,hv,hu⟩:=ha.two;have hu:u= .int .u32 (c0:Int):=hu;subst hu;exact(cZA v l c0 w (kL hh hv) hl hc).mono fun _ _ hp=>qW hh hp
theorem fcmp(l l':List Nat)(hl:l.length≤1099511627776)(hl':l'.length≤1099511627776):Fn PZ En 153 [mag l,mag l'] (i6 (gA l l')):=by
 intro h w vs _ hh ha;obtain⟨v,u,rfl,hv,hu⟩:=ha.two;exact(hZM v u l l' w (kL hh hv) (kL hh hu) hl hl').mono fun _ _ ⟨he,hb⟩=>nZE hh he hb
theorem fdif(l l':List Nat)(hl:l.length≤1099511627776)(hl':l'.length≤l.length)(hle:val l'≤val l):Fn PZ En 163 [mag l,mag l'] (hZb (val l-val l') l.length):=by
 intro h w vs _ hh ha;obtain⟨v,u,rfl,hv,hu⟩:=ha.two;exact(hZL v u l l' w (kL hh hv) (kL hh hu) hl hl' hle).mono fun _ _ hp=>qW hh hp
theorem flow(l:List Nat)(hl:l.length≤2):Fn PZ En 61 [mag l] (ex (.int .u64 ((val l:Nat):Int))):=by
 intro h w vs _ hh ha;obtain⟨v,rfl,hv⟩:=ha.one;refine(wY v l w (kL hh hv) hl).mono ?_;rintro e w' ⟨rfl,rfl⟩;exact jR hh (Below.refl _ _) rfl
theorem gZ6{t y:Nat}:decide (gA (aE t) (aE y)≥0)=decide (y≤t):=by
 rw[iY]
 by_cases h:t<y
 ·rw[if_pos h,decide_eq_false oM,decide_eq_false oM]
 ·rw[if_neg h,decide_eq_true (p:=y≤t) oM]
  split<;>rfl
theorem jZR(x y:Nat)(hx:(aE x).length≤536870912)(hyl:(aE y).length≤536870912)(hy:y≠0)(hbig:¬((aE x).length≤2∧(aE y).length≤2)):Fn PZ En 161 [mag (aE x),mag (aE y)] (wK x y):=by
 unfold wK;have hxlt:=eJ x;have ht1:=qQ En (pd (x/y) (aE x).length) (by rw[dO];omega)
 rw[mN _ _ (Nat.lt_of_le_of_lt (Nat.div_le_self _ _) hxlt)] at ht1;have hpub:=iZN (x/y) (aE x).length (aE x).length (Nat.le_refl _);have hgx:∀j,j<(aE x).length→(aE x)[j]? =some (x/B^j%B):=fun j hj=>jZZ hj;have hrl:∀r,r<y→(aE r).length≤536870912:=fun r hr=>Nat.le_trans (eC oM) hyl;have e36:IntKind.i64.wrap (32*((aE x).length:Int))=32*((aE x).length:Int):=w64 oM oM;have e37:IntKind.i64.wrap (32*((aE x).length:Int)-1)=((32*(aE x).length:Nat):Int)-1:=by rw[w64 oM oM];omega
 refine aA Tryz.func161 rfl Tryz.ntmps161 rfl ?_;intro w0 h0;refine kR ?_;refine ja jj<|vZ jj ?_;refine WpD.cut (α:=Unit) (fun _=>⟨[(0,.one (mag (aE x))),(1,.one (mag (aE y))),(4,.one (ex (.slice none 0 0))),(5,.one (ex (.slice none 0 0)))],[]⟩) ?_ ?_
 ·by_cases h2:(aE x).length≤2
  ·have b1:decide (((aE x).length:Int)≤2)=true:=decide_eq_true oM
   have b2:decide (((aE y).length:Int)≤2)=false:=decide_eq_false oM;refine kR ?_;refine jm jj<|jE jj<|jS (bVe jj jj b1)<|jm jj ?_;refine kG ?_;first|refine jg (dQ jj CSlice.ok) ?_|refine jk ?_
   first|refine jg (bVe jj jj b2) ?_|refine jk ?_
   refine kH ?_;refine jn ?_;refine kO ?_;refine WpD.condF rfl ?_;refine kO ?_;refine WpD.skip ?_;refine⟨(),?_⟩;exact Sub.mk sJ sJ
  ·have b1:decide (((aE x).length:Int)≤2)=false:=decide_eq_false oM
   refine kR ?_;refine jm jj<|jE jj<|jS (bVe jj jj b1)<|jm jj ?_;refine kG ?_;first|refine jg (dQ jj CSlice.ok) ?_|refine jk ?_
   first|refine jg (aY jj jj (fun w=>pU w _ _ _ _ _ _)) ?_|refine jk ?_
   refine kH ?_;refine jn ?_;refine kO ?_;refine WpD.condF rfl ?_;refine kO ?_;refine WpD.skip ?_;refine⟨(),?_⟩;exact Sub.mk sJ sJ
 rintro⟨⟩;refine kR ?_;refine jm jj<|jE jj<|jT (nT jj jj jj jj oM oM)<|vZ jj ?_;refine kR ?_;refine jm jj<|jE jj<|vMu jj e36<|vSu jj e37<|vZ jj ?_;refine kO ?_;refine WpD.loop (α:={i:Nat//i≤32*(aE x).length}) (fun i=>⟨[(0,.one (mag (aE x))),(1,.one (mag (aE y))),(4,.own 33 0 (aE x).length (aE x).length),(5,.one (mag (aE (x/2^i.1%y)))),(8,.one (i6 ((i.1:Int)-1)))],[(33,(pd (QV x y i.1) (aE x).length).map lb)]⟩) (fun i=>i.1) ⟨32*(aE x).length,Nat.le_refl _⟩ ?_ ?_
 ·have hx0:x/2^(32*(aE x).length)=0:=Nat.div_eq_of_lt (by rw[Nat.pow_mul];exact hxlt)
  have hz:List.replicate (aE x).length (ex (.int .u32 0))=(pd (QV x y (32*(aE x).length)) (aE x).length).map lb:=by
   rw[qR];unfold QV;rw[hx0,Nat.zero_div,Nat.zero_mul];congr 1
   refine sB ?_ ?_ (by simp)
   ·intro z hz;rw[(List.mem_replicate.1 hz).2];exact dD
   ·exact cZD fun z hz=>(List.mem_replicate.1 hz).2
  dsimp only;rw[hx0,Nat.zero_mod,fQ];refine Sub.mk ?_ ⟨.inl ⟨_,rfl,PsLe.of_eq hz⟩,trivial⟩;repeat(first|exact trivial|refine⟨⟨_,rfl,rfl⟩,oN,?_⟩|refine⟨⟨_,rfl,rfl⟩,oN,?_⟩|refine⟨pK,trivial,?_⟩|refine⟨⟨_,rfl,pX⟩,trivial,?_⟩)
 rintro⟨i,hi⟩;dsimp only;cases i with
 |zero=>
  have b4:decide ((((0:Nat):Int)-1)≥0)=false:=by decide
  rw[nZj,Nat.pow_zero,Nat.div_one];refine kR ?_;refine jm jj<|jS (bVh jj jj b4)<|jn ?_;refine kO ?_;refine WpD.condF rfl ?_;refine kO ?_;refine WpD.exit ?_;refine WpD.sub (τ:=⟨[(4,.one (mag (pd (x/y) (aE x).length))),(5,.one (mag (aE (x%y))))],[]⟩) ?_ ?_
  ·
   refine Sub.pub 33 rfl rfl ?_ ?_ rfl
   ·repeat(first|exact trivial|refine⟨.inl ⟨pK,trivial⟩,?_⟩|refine⟨.inl ⟨⟨_,rfl,rfl⟩,oN⟩,?_⟩|refine⟨.inl ⟨⟨_,rfl,rfl⟩,⟨oN,oN⟩⟩,?_⟩|refine⟨.inr (.inl ⟨_,_,_,_,rfl,rfl,hpub⟩),?_⟩|refine⟨.inr (.inr (.inl ⟨_,_,_,rfl,rfl,hpub⟩)),?_⟩)
   ·repeat(first|exact trivial|refine jz ?_|refine jy rfl ?_)
  refine kR ?_;refine jm jj<|vC ht1 tA<|jm jj<|ja jj<|vZ jj ?_;refine kO ?_;refine WpD.ret ?_;exact lB rfl (.tmp rfl) (.tmp rfl) (PLe.refl _)
 |succ i=>
  have hj:i/32<(aE x).length:=oM;have b4:decide ((i:Int)≥0)=true:=decide_eq_true oM;have eq:IntKind.i64.wrap ((i:Int).tdiv 32)=((i/32:Nat):Int):=by rw[Int.tdiv_eq_ediv_of_nonneg oM,w64 oM oM];omega
  have er:(i:Int).tmod 32=((i%32:Nat):Int):=by rw[Int.tmod_eq_emod_of_nonneg oM];omega
  have hg:=hgx _ hj;have hm32:i%32<32:=Nat.mod_lt _ aD;have e8:=shrN (x/B^(i/32)%B) (i%32) oM;have e9:=hZD (x/B^(i/32)%B/2^(i%32));rw[jZv] at e9;have h2:x/2^i%2≤1:=oM;have e41:IntKind.i64.wrap ((i:Int)-1)=(i:Int)-1:=w64 oM oM;have hry:=Nat.mod_lt (x/2^(i+1)) (Nat.pos_of_ne_zero hy);have hr1:=hrl _ hry;have D1:=mZk En (aE (x/2^(i+1)%y)) (x/2^i%2) oM h2;have D2:=dZE En (2*(x/2^(i+1)%y)+x/2^i%2) ((aE (x/2^(i+1)%y)).length+1) oM;rw[aN] at D1;have hlo:= @dv_lo x y i;have hhi:= @dv_hi x y i (Nat.pos_of_ne_zero hy);have htl:=mZy h2 hr1;generalize htt:2*(x/2^(i+1)%y)+x/2^i%2=t at*;have D3:=fcmp En (aE t) (aE y) oM oM;rw[show(((i+1:Nat):Int)-1)=(i:Int) by omega]
  by_cases hty:y≤t
  ·have b5:decide (gA (aE t) (aE y)≥0)=true:=by rw[gZ6];exact decide_eq_true hty
   obtain⟨f1,f2⟩:=hhi hty;have D4:=fdif En (aE t) (aE y) oM (eC hty) (by rw[aN,aN];exact hty)
   rw[aN,aN] at D4;have D5:=dZE En (t-y) (aE t).length oM;have hd:=pZK x y (i+1);have hV:QV x y (i+1)<B^(aE x).length:=Nat.lt_of_le_of_lt (QV_le _ _ _) hxlt;obtain⟨c',hc',hfree⟩:=aZN hd;have hset0:=pd_or hj hd hV;have hgq:=bZI (QV x y (i+1)) (aE x).length (i/32) hj;rw[←f2] at hset0;generalize QV x y (i+1)/B^(i/32)%B=a at*;have hgq':((pd (QV x y (i+1)) (aE x).length).map lb)[i/32]? =some (lb a):=by rw[List.getElem?_map,hgq];rfl
   have hsl:i/32<((pd (QV x y (i+1)) (aE x).length).map lb).length:=by rw[List.length_map,dO];exact hj
   have hset:((pd (QV x y (i+1)) (aE x).length).map lb).set (i/32) (ex (.int .u32 ((a+2^(i%32):Nat):Int)))=(pd (QV x y i) (aE x).length).map lb:=by
    rw[←hset0,List.map_set];rfl
   have e69:IntKind.u32.wrap (1*2^(min ((i%32:Nat):Int).toNat IntKind.u32.bits))=((2^(i%32):Nat):Int):=by
    rw[Int.toNat_natCast,show min (i%32) IntKind.u32.bits=i%32 from Nat.min_eq_left (by show i%32≤32;omega),Int.one_mul]
    have hp:=Nat.two_pow_pos (i%32);rw[show((2:Int)^(i%32))=((2^(i%32):Nat):Int) by norm_cast,IntKind.wrap_u32]
    rw[bM] at hfree;generalize 2^(i%32)=z at*;omega
   have e70:=iZP hc' hfree;refine kR ?_;refine jm jj<|jS (bVh jj jj b4)<|jn ?_;refine kO ?_;refine WpD.condT rfl ?_;refine kO ?_;refine WpD.skip ?_;refine kR ?_;refine vV jj jj<|jm jj<|jS (bQu jj jj eq)<|jS (bY jj jj aM)<|vT jj<|jm jj<|jS (bRe jj jj er)<|jS (aH jj jj (fun w=>dF w _ _ _ _ _ _ _ aW) (dV e8))<|jS (aH jj jj (fun w=>rZ w _ _ _ _ _ _) (dV e9))<|vC D1 tB<|vC D2 tA<|vZ jj ?_;refine kR ?_;refine vV jj jj<|vC D3 tB<|jS (bVh jj jj b5)<|jn ?_;refine kO ?_;refine WpD.condT rfl ?_;refine kR ?_;refine vV jj jj<|vC D4 tB<|vC D5 tA<|vZ jj ?_;refine kR ?_;refine vV jj jj<|jS (bQu jj jj eq)<|jS (dN jj jj aO)<|jS (aX jj jj aM)<|jm jj<|jS (bRe jj jj er)<|jS (aH jj jj (fun w=>jD w _ _ _ _ _ _ _ aW) (dV e69))<|jS (aH jj jj (fun w=>lK w _ _ _ _ _ _) (dV e70))<|jS (dN jj jj aO)<|jO (bX jj jj jj aM aM)<|jn ?_;refine kR ?_;refine jm jj<|vSu jj e41<|vZ jj ?_;refine⟨⟨i,oM⟩,?_,Nat.lt_succ_self i⟩;dsimp only;rw[f1];exact Sub.mk sJ sJ
  ·have b5:decide (gA (aE t) (aE y)≥0)=false:=by rw[gZ6];exact decide_eq_false hty
   obtain⟨f1,f2⟩:=hlo oM;refine kR ?_;refine jm jj<|jS (bVh jj jj b4)<|jn ?_;refine kO ?_;refine WpD.condT rfl ?_;refine kO ?_;refine WpD.skip ?_;refine kR ?_;refine vV jj jj<|jm jj<|jS (bQu jj jj eq)<|jS (bY jj jj aM)<|vT jj<|jm jj<|jS (bRe jj jj er)<|jS (aH jj jj (fun w=>dF w _ _ _ _ _ _ _ aW) (dV e8))<|jS (aH jj jj (fun w=>rZ w _ _ _ _ _ _) (dV e9))<|vC D1 tB<|vC D2 tA<|vZ jj ?_;refine kR ?_;refine vV jj jj<|vC D3 tB<|jS (bVh jj jj b5)<|jn ?_;refine kO ?_;refine WpD.condF rfl ?_;refine kO ?_;refine WpD.skip ?_;refine kR ?_;refine jm jj<|vSu jj e41<|vZ jj ?_;refine⟨⟨i,oM⟩,?_,Nat.lt_succ_self i⟩;dsimp only;rw[f1,f2];exact Sub.mk sJ sJ
theorem jZQ(x y:Nat)(hx:(aE x).length≤536870912)(hyl:(aE y).length≤536870912)(hy:y≠0):Fn PZ En 161 [mag (aE x),mag (aE y)] (wK x y):=by
 by_cases h:(aE x).length≤2∧(aE y).length≤2
 ·exact mZl En x y (aZf x y hy h.1 h.2)
 ·exact jZR En x y hx hyl hy h
end
end
section
open Go.RowKit Limb
instance kb151:CBody PZ 151:=cB Tryz.func151
section
variable(En:Ev)
theorem fsumR(l l':List Nat)(hl:l.length≤1099511627776)(hl':l'.length≤1099511627776):Fn PZ En 162 [mag l,mag l'] (hZb (val l+val l') (max l.length l'.length+1)):=by
 intro h w vs _ hh ha;obtain⟨v,u,rfl,hv,hu⟩:=ha.two;exact(hZH v u l l' w (kL hh hv) (kL hh hu) hl hl').mono fun _ _ hp=>qW hh hp
theorem zN(neg:Bool)(x k:Nat)(hk:k≤1099511627776):Fn PZ En 123 [ex (.bool neg),hZb x k] (zC (aT neg x)):=by
 intro h w vs he hh ha;obtain⟨v,u,rfl,hv,l,h1,h2,h3⟩:=ha.two;have:=dZI En neg l oM h w [v,u] he hh ⟨hv,h3,trivial⟩;unfold zv at this;rwa[h1] at this
theorem fnegR(s:Bool)(l:List Nat)(hl:l.length≤1099511627776):Fn PZ En 66 [zR s l] (zC (-(zv s l))):=by
 intro h w vs _ hh ha;obtain⟨v,rfl,hv⟩:=ha.one;obtain⟨a,cap,rfl,hz⟩:=eZw hh hv;exact(hZI s a _ cap _ _ w hz hl).mono fun _ _ hp=>rM hh hp
theorem addZ(s s':Bool)(x y:Nat)(h:(aE x).length≤1073741824)(h':(aE y).length≤1073741824):Fn PZ En 122 [zR s (aE x),zR s' (aE y)] (zC (aT s x+aT s' y)):=by
 have T1:=qQ En (aE x) oM;have T2:=qQ En (aE y) oM;rw[aN] at T1 T2
 by_cases hs:s=s'
 ·subst hs
  have S1:=fsumR En (aE x) (aE y) oM oM;rw[aN,aN] at S1;have M1:=zN En s (x+y) (max (aE x).length (aE y).length+1) oM;rw[show aT s (x+y)=aT s x+aT s y by unfold aT;cases s<;>simp<;>omega] at M1
  have e:(s==s)=true:=beq_self_eq_true s;generalize aT s x+aT s y=z at*;unfold zC at*;unfold zR at*;refine aA Tryz.func122 rfl Tryz.ntmps122 rfl ?_;intro w0 h0;refine vS<|vB jj<|vB jj<|vA jj<|vJ<|vX jj<|vC T1 tA<|vX jj<|vC T2 tA<|ja jj<|vZ jj<|js<|vS<|vX jj<|vX jj<|jS (aH jj jj (fun w=>eS w CBool.ok _ _ _ _) (dH e))<|jn<|jt jj<|vS<|vX jj<|vV jj jj<|vC S1 tB<|vC M1 tB<|vP jj<|jn<|ji ?_;exact rtC rfl jj jj
 ·have e:(s==s')=false:=beq_eq_false_iff_ne.2 hs
  have C1:=fcmp En (aE x) (aE y) oM oM
  by_cases hxy:y≤x
  ·have S1:=fdif En (aE x) (aE y) oM (eC hxy) (by rw[aN,aN];exact hxy)
   rw[aN,aN] at S1;have M1:=zN En s (x-y) (aE x).length oM;rw[show aT s (x-y)=aT s x+aT s' y by unfold aT;cases s<;>cases s'<;>simp at* <;>omega] at M1
   have hc:gA (aE x) (aE y)≥0:=by rw[iY,if_neg oM];split<;>omega
   generalize gA (aE x) (aE y)=q at*;generalize aT s x+aT s' y=z at*;unfold zC at*;unfold zR at*;refine aA Tryz.func122 rfl Tryz.ntmps122 rfl ?_;intro w0 h0;refine vS<|vB jj<|vB jj<|vA jj<|vJ<|vX jj<|vC T1 tA<|vX jj<|vC T2 tA<|ja jj<|vZ jj<|js<|vS<|vX jj<|vX jj<|jS (aH jj jj (fun w=>eS w CBool.ok _ _ _ _) (dH e))<|jn<|jf jj<|jp<|js<|vS<|vV jj jj<|vC C1 tB<|jS (bHt jj jj)<|jn<|jt jj<|vS<|vX jj<|vV jj jj<|vC S1 tB<|vC M1 tB<|vP jj<|jn ?_;refine ji ?_;exact rtC rfl jj jj
  ·have S1:=fdif En (aE y) (aE x) oM (eC oM) (by rw[aN,aN];omega)
   rw[aN,aN] at S1;have M1:=zN En s' (y-x) (aE y).length oM;rw[show aT s' (y-x)=aT s x+aT s' y by unfold aT;cases s<;>cases s'<;>simp at* <;>omega] at M1
   have hc:¬gA (aE x) (aE y)≥0:=by rw[iY,if_pos oM];omega
   generalize gA (aE x) (aE y)=q at*;generalize aT s x+aT s' y=z at*;unfold zC at*;unfold zR at*;refine aA Tryz.func122 rfl Tryz.ntmps122 rfl ?_;intro w0 h0;refine vS<|vB jj<|vB jj<|vA jj<|vJ<|vX jj<|vC T1 tA<|vX jj<|vC T2 tA<|ja jj<|vZ jj<|js<|vS<|vX jj<|vX jj<|jS (aH jj jj (fun w=>eS w CBool.ok _ _ _ _) (dH e))<|jn<|jf jj<|jp<|js<|vS<|vV jj jj<|vC C1 tB<|jS (bHf jj jj)<|jn<|jf jj<|jp<|vS<|vX jj<|vV jj jj<|vC S1 tB<|vC M1 tB<|vP jj<|jn ?_;refine ji ?_;exact rtC rfl jj jj
theorem nZ2(z:Int):aT (decide (z<0)) z.natAbs=z:=by
 have:=eP z;unfold zv at this;rwa[aN] at this
theorem hZC(z z':Int)(h:sz z≤1073741824)(h':sz z'≤1073741824):Fn PZ En 122 [zC z,zC z'] (zC (z+z')):=by
 have:=addZ En (decide (z<0)) (decide (z'<0)) z.natAbs z'.natAbs h h';rwa[nZ2,nZ2] at this
theorem csub(z z':Int)(h:sz z≤1073741824)(h':sz z'≤1073741824):Fn PZ En 64 [zC z,zC z'] (zC (z-z')):=by
 have C1:=fnegR En (decide (z'<0)) (aE z'.natAbs) (Nat.le_trans h' oM);rw[eP] at C1;have C2:=hZC En z (-z') h (by rw[oZw];exact h')
 rw[show z+ -z'=z-z' by omega] at C2
 generalize z-z'=q at*;generalize-z'=r at*;unfold zC zR at*;refine aA Tryz.func64 rfl Tryz.ntmps64 rfl ?_;intro w0 h0;refine vS<|vB jj<|vB jj<|vA jj<|vJ<|vL jj<|vL jj<|vC C1 ⟨jj,trivial⟩<|vC C2 ⟨jj,jj,trivial⟩<|vP jj<|jn<|ji ?_;exact rtC rfl jj jj
theorem gZ1(z:Int)(h:sz z≤1099511627776):Fn PZ En 62 [zC z] (i6 (sg3 z)):=by
 have:=aZX En (decide (z<0)) (aE z.natAbs) h;rwa[eP] at this
theorem cabs(z:Int)(h:sz z≤1099511627776):Fn PZ En 151 [zC z] (zC (z.natAbs:Int)):=by
 have:=fabs En (decide (z<0)) (aE z.natAbs) h;rwa[eP] at this
theorem kZm(neg:Bool)(n:Nat)(z:Int)(h:(aE n).length≤1099511627776)(hz:z=if neg then-(n:Int) else(n:Int)):Fn PZ En 123 [ex (.bool neg),mag (aE n)] (zC z):=by
 have:=dZI En neg (aE n) h;unfold zv aT at this;rw[aN] at this;rw[hz];exact this
theorem wR(z:Int):decide (sg3 z<0)=decide (z<0):=by
 unfold sg3
 by_cases h:z<0
 ·simp[h];split<;>omega
 ·simp[h];split<;>(try split)<;>omega
def dmQ(s s':Bool)(x y:Nat):Int:=if(s !=s') then-((x/y:Nat):Int) else((x/y:Nat):Int)
def dmR(s:Bool)(x y:Nat):Int:=if s then-((x%y:Nat):Int) else((x%y:Nat):Int)
theorem pZm{s s':Bool}{x y:Nat}(hy:y≠0)(h:¬dmR s x y<0):aT s x/aT s' y=dmQ s s' x y∧aT s x%aT s' y=dmR s x y:=by
 have e:=Nat.div_add_mod x y;have hlt:=Nat.mod_lt x (Nat.pos_of_ne_zero hy);have ec:(x:Int)=(y:Int)*((x/y:Nat):Int)+((x%y:Nat):Int):=by exact_mod_cast e.symm
 unfold dmR at h;refine kW (by unfold aT;split<;>omega) ?_ (by unfold dmR;omega) (by unfold dmR aT;split<;>split<;>omega)
 unfold aT dmQ dmR;generalize((x/y:Nat):Int)=q at*;generalize((x%y:Nat):Int)=r at*;cases s<;>cases s'<;>simp[Int.neg_mul,Int.mul_neg]<;>rw[ec]<;>omega
theorem pZn{s s':Bool}{x y:Nat}(hy:y≠0)(h:dmR s x y<0):aT s x/aT s' y=(if s' then dmQ s s' x y+1 else dmQ s s' x y-1)∧aT s x%aT s' y=dmR s x y+y:=by
 have e:=Nat.div_add_mod x y;have hlt:=Nat.mod_lt x (Nat.pos_of_ne_zero hy);have ec:(x:Int)=(y:Int)*((x/y:Nat):Int)+((x%y:Nat):Int):=by exact_mod_cast e.symm
 cases s with
 |false=>unfold dmR at h;simp at h;omega
 |true=>
  unfold dmR at h ⊢;simp only[if_true] at h ⊢;refine kW (by unfold aT;split<;>omega) ?_ oM (by unfold aT;split<;>omega)
  unfold aT dmQ;generalize((x/y:Nat):Int)=q at*;generalize((x%y:Nat):Int)=r at*;cases s'<;>simp[Int.mul_sub,Int.mul_add,Int.neg_mul,Int.mul_neg]<;>rw[ec]<;>omega
theorem gZv(s:Bool)(l:List Nat)(s':Bool)(l':List Nat)(hl:l.length≤536870912)(hl':l'.length≤536870912)(hlm:Lm l)(hlm':Lm l')(hy:zv s' l'≠0):
  Fn PZ En 121 [zR s l,zR s' l'] (dK [zC (zv s l/zv s' l'),zC (zv s l%zv s' l'),ex (.bool true)]):=by
 have C1:=qQ En l oM;have C2:=qQ En l' oM;have D1:=vK hl hlm;have D2:=vK hl' hlm';have C3:=jZQ En (val l) (val l') D1 D2 (fun h=>hy (by unfold zv;rw[h];cases s'<;>rfl))
 unfold wK at C3;have hy0:val l'≠0:=by intro h;apply hy;unfold zv;rw[h];cases s'<;>rfl
 generalize hx:val l=x at*;generalize hyy:val l'=y at*;have Q1:(aE (x/y)).length≤536870912:=Nat.le_trans (eC (Nat.div_le_self _ _)) D1;have R1:(aE (x%y)).length≤536870912:=Nat.le_trans (eC (Nat.mod_le _ _)) D1;have hlen:(((aE y).length:Int)==0)=false:=by
  rw[beq_eq_false_iff_ne];have:=zP y;rw[decide_eq_true (by omega:0<y),decide_eq_true_eq] at this
  omega
 have hX:zv s l=aT s x:=by unfold zv;rw[hx]
 have hY:zv s' l'=aT s' y:=by unfold zv;rw[hyy]
 rw[hX,hY];have C4:=kZm En (s !=s') (x/y) (dmQ s s' x y) oM rfl;have C5:=kZm En s (x%y) (dmR s x y) oM rfl;have szQ:sz (dmQ s s' x y)≤536870912:=by unfold sz dmQ;split<;>(first|rw[Int.natAbs_neg]|skip)<;>(rw[Int.natAbs_natCast];exact Q1)
 have szR:sz (dmR s x y)≤536870912:=by unfold sz dmR;split<;>(first|rw[Int.natAbs_neg]|skip)<;>(rw[Int.natAbs_natCast];exact R1)
 have C6:=gZ1 En (dmR s x y) oM;have C7:=kZm En false y (y:Int) oM (by simp)
 have C8:=hZC En (dmR s x y) (y:Int) oM (by unfold sz;simp;omega)
 have C9:=iH En 1 oM oM;have s1:sz 1≤1073741824:=by decide
 have C10:=hZC En (dmQ s s' x y) 1 oM s1;have C11:=csub En (dmQ s s' x y) 1 oM s1;have C12:=aZX En s' l' oM;rw[hY] at C12;refine aA Tryz.func121 rfl Tryz.ntmps121 rfl ?_;intro w0 h0;refine kR ?_;refine vB jj<|vB jj<|vA jj<|vA jj<|vZ jj ?_;refine kR ?_;refine vX jj<|vC C1 ⟨jj,trivial⟩<|vX jj<|vC C2 ⟨jj,trivial⟩<|ja jj<|vZ jj ?_;refine kR ?_;refine jm jj<|jE jj<|jS (aY jj jj (fun w=>iR w _ _ _ _ _ _))<|jn ?_;refine WpD.cond rfl (fun hb=>(by rw[hlen] at hb;cases hb)) (fun _=>?_)
 refine WpD.skip ?_;refine kR ?_;refine vV jj jj<|vC C3 ⟨jj,jj,trivial⟩<|jm jj<|vE jj<|vE jj<|ja jj<|vZ jj ?_;refine kR ?_;refine vX jj<|vX jj<|jS (aY jj jj (fun w=>nR w CBool.ok _ _ _ _))<|jm jj<|vC C4 ⟨jj,jj,trivial⟩<|vX jj<|jm jj<|vC C5 ⟨jj,jj,trivial⟩<|vA jj<|vA jj<|vP jj<|vP jj<|jn ?_;refine kR ?_;refine vL jj<|vC C6 ⟨jj,trivial⟩<|jS (aY jj jj (fun w=>rY w _ _ _ _ _ _))<|jn ?_;refine WpD.cond rfl (fun hb=>?_) (fun hb=>?_)
 ·have hneg:dmR s x y<0:=by rw[wR] at hb;simpa using hb
  obtain⟨e1,e2⟩:=pZn (s':=s') hy0 hneg;rw[e1,e2];refine kR ?_;refine vL jj<|jm jj<|vC C7 ⟨jj,jj,trivial⟩<|vC C8 ⟨jj,jj,trivial⟩<|vP jj<|jn ?_;refine kR ?_;refine vL jj<|vC C12 ⟨jj,trivial⟩<|jS (aY jj jj (fun w=>rY w _ _ _ _ _ _))<|jn ?_;refine WpD.cond rfl (fun hb=>?_) (fun hb=>?_)
  ·
   refine kR ?_;refine vL jj<|vC C9 ⟨jj,trivial⟩<|vC C10 ⟨jj,jj,trivial⟩<|vL jj<|vP jj<|vP jj<|vZ jj ?_;have hs':s'=true:=by
    rw[wR] at hb;unfold aT at hb;cases s'
    ·simp at hb;omega
    ·rfl
   subst hs';refine WpD.ret ?_;exact dZb rfl (.cell rfl rfl CRow.ok rfl) (.cell rfl rfl CRow.ok rfl) (.tmp rfl) (PLe.refl _)
  ·refine WpD.skip ?_
   refine kR ?_;refine vL jj<|vC C9 ⟨jj,trivial⟩<|vC C11 ⟨jj,jj,trivial⟩<|vL jj<|vP jj<|vP jj<|vZ jj ?_;have hs':s'=false:=by
    rw[wR] at hb;unfold aT at hb;cases s'
    ·rfl
    ·simp at hb;omega
   subst hs';refine WpD.ret ?_;exact dZb rfl (.cell rfl rfl CRow.ok rfl) (.cell rfl rfl CRow.ok rfl) (.tmp rfl) (PLe.refl _)
 ·have hneg:¬dmR s x y<0:=by rw[wR] at hb;simpa using hb
  obtain⟨e1,e2⟩:=pZm (s':=s') hy0 hneg;rw[e1,e2];refine WpD.skip ?_;refine kR ?_;refine vL jj<|vL jj<|vP jj<|vP jj<|vZ jj ?_;refine WpD.ret ?_;exact dZb rfl (.cell rfl rfl CRow.ok rfl) (.cell rfl rfl CRow.ok rfl) (.tmp rfl) (PLe.refl _)
theorem frem(s:Bool)(l:List Nat)(s':Bool)(l':List Nat)(hl:l.length≤536870912)(hl':l'.length≤536870912)(hlm:Lm l)(hlm':Lm l')(hy:zv s' l'≠0):
  Fn PZ En 152 [zR s l,zR s' l'] (zC (zv s l%zv s' l')):=by
 have C1:=gZv En s l s' l' hl hl' hlm hlm' hy;refine aA Tryz.func152 rfl Tryz.ntmps152 rfl ?_;intro w0 h0;refine kR ?_;refine vB jj<|vB jj<|vA jj<|jn ?_;refine kR ?_;refine vL jj<|vL jj<|vC C1 ⟨jj,jj,trivial⟩<|jm jj<|vE jj<|vE jj<|vE jj<|vA jj<|vA jj<|vP jj<|vP jj<|vZ jj ?_;refine kR ?_;refine vL jj<|vP jj<|jn ?_;refine WpD.ret ?_;exact rtC rfl jj jj
theorem crem(z z':Int)(h:sz z≤536870912)(h':sz z'≤536870912)(hz:z'≠0):Fn PZ En 152 [zC z,zC z'] (zC (z%z')):=by
 have:=frem En (decide (z<0)) (aE z.natAbs) (decide (z'<0)) (aE z'.natAbs) h h' (aJ _) (aJ _) (by rw[eP];exact hz)
 rwa[eP,eP] at this
end
end
section
open Go.RowKit Limb
instance kb133:CBody PZ 133:=cB Tryz.func133
instance kb38:CBody PZ 38:=cB Tryz.func38
instance kb70:CBody PZ 70:=cB Tryz.func70
def gJ(X Y:Int):Int:=if X<Y then-1 else if Y<X then 1 else 0
theorem gZ7(X Y:Int): -1≤gJ X Y∧gJ X Y≤1:=by unfold gJ;split<;>(try split)<;>omega
theorem iZt(z:Int): -1≤sg3 z∧sg3 z≤1:=by unfold sg3;split<;>(try split)<;>omega
theorem bZ0{X Y:Int}(h:sg3 X<sg3 Y):X<Y:=by
 unfold sg3 at h;split at h<;>split at h<;>(try split at h)<;>(try split at h)<;>omega
theorem kZl{s s':Bool}{x y:Nat}(h:sg3 (aT s x)=sg3 (aT s' y)):sg3 (aT s x)*(if x<y then-1 else if y<x then 1 else 0)=gJ (aT s x) (aT s' y):=by
 have hX:aT s x=x∨aT s x= -(x:Int):=by unfold aT;split<;>simp
 have hY:aT s' y=y∨aT s' y= -(y:Int):=by unfold aT;split<;>simp
 generalize aT s x=X at*;generalize aT s' y=Y at*;unfold gJ;rcases Int.lt_trichotomy X 0 with hx|hx|hx
 ·have e:sg3 X= -1:=by unfold sg3;rw[if_neg oM,if_pos hx]
  have hy:Y<0:=by
   rw[e] at h;unfold sg3 at h;split at h
   ·omega
   ·split at h<;>omega
  rw[e];repeat' split
  all_goals omega
 ·have e:sg3 X=0:=by unfold sg3;rw[if_pos hx]
  have hy:Y=0:=by
   rw[e] at h;unfold sg3 at h;split at h
   ·assumption
   ·split at h<;>omega
  rw[e,hx,hy,Int.zero_mul];rfl
 ·have e:sg3 X=1:=by unfold sg3;rw[if_neg oM,if_neg oM]
  have hy:0<Y:=by
   rw[e] at h;unfold sg3 at h;split at h
   ·omega
   ·split at h<;>omega
  rw[e];repeat' split
  all_goals omega
section
variable(En:Ev)
theorem fZd(s:Bool)(l:List Nat)(hl:Lm l)(hlen:l.length≤274877906944):Fn PZ En 133 [zR s l] (zC (zv s l)):=by
 have C1:=iE En l hl oM;have D1:=eK hlen hl;unfold zv;generalize val l=x at*;have C2:=bZM En (aE x) (aJ _) oM;have C3:=jM En s x;refine aA Tryz.func133 rfl Tryz.ntmps133 rfl ?_;intro w0 h0;refine kR ?_;refine vB jj<|vA jj<|jn ?_;refine kR ?_;refine vX jj<|vX jj<|vC C1 tA<|vC C2 tA<|vC C3 tB<|vP jj<|jn ?_;refine kO ?_;refine WpD.ret ?_;exact rtC rfl jj jj
theorem icmp(s:Bool)(l:List Nat)(s':Bool)(l':List Nat)(hl:Lm l)(hl':Lm l')(hlen:l.length≤274877906944)(hlen':l'.length≤274877906944):
  Fn PZ En 38 [zR s l,zR s' l'] (i6 (gJ (zv s l) (zv s' l'))):=by
 have C1:=zB En s l hl oM;have C2:=zB En s' l' hl' oM;have C3:=iE En l hl oM;have C4:=iE En l' hl' oM;have D1:=eK hlen hl;unfold zv at*;generalize val l=x at*;generalize val l'=y at*;have C5:=nC En (aE x) (aE y) oM (aJ _) (aJ _);rw[iY] at C5
 by_cases h1:sg3 (aT s x)<sg3 (aT s' y)
 ·have b1:decide (sg3 (aT s x)<sg3 (aT s' y))=true:=decide_eq_true h1
  rw[show gJ (aT s x) (aT s' y)= -1 by unfold gJ;rw[if_pos (bZ0 h1)]]
  refine aA Tryz.func38 rfl Tryz.ntmps38 rfl ?_;intro w0 h0;refine kR ?_;refine vB jj<|vB jj<|vZ jj ?_;refine kR ?_;refine vL jj<|vC C1 ⟨jj,trivial⟩<|vL jj<|vC C2 ⟨jj,trivial⟩<|ja jj<|vZ jj ?_;refine kR ?_;refine vV jj jj<|jS (bVl jj jj b1)<|vZ jj ?_;refine kO ?_;refine WpD.condT rfl ?_;refine kR ?_;refine vZ jj ?_;refine kO ?_;refine WpD.ret ?_;exact rtT rfl jj
 ·have b1:decide (sg3 (aT s x)<sg3 (aT s' y))=false:=decide_eq_false h1
  by_cases h2:sg3 (aT s x)>sg3 (aT s' y)
  ·have b2:decide (sg3 (aT s x)>sg3 (aT s' y))=true:=decide_eq_true h2
   have h3:=bZ0 h2;rw[show gJ (aT s x) (aT s' y)=1 by unfold gJ;rw[if_neg oM,if_pos h3]]
   refine aA Tryz.func38 rfl Tryz.ntmps38 rfl ?_;intro w0 h0;refine kR ?_;refine vB jj<|vB jj<|vZ jj ?_;refine kR ?_;refine vL jj<|vC C1 ⟨jj,trivial⟩<|vL jj<|vC C2 ⟨jj,trivial⟩<|ja jj<|vZ jj ?_;refine kR ?_;refine vV jj jj<|jS (bVl jj jj b1)<|vZ jj ?_;refine kO ?_;refine WpD.condF rfl ?_;refine kR ?_;refine vV jj jj<|jS (bVg jj jj b2)<|vZ jj ?_;refine kO ?_;refine WpD.condT rfl ?_;refine kR ?_;refine vZ jj ?_;refine kO ?_;refine WpD.ret ?_;exact rtT rfl jj
  ·have b2:decide (sg3 (aT s x)>sg3 (aT s' y))=false:=decide_eq_false h2
   have e8:IntKind.i64.wrap (sg3 (aT s x)*(if x<y then-1 else if y<x then 1 else 0))=gJ (aT s x) (aT s' y):=by
    rw[kZl (s':=s') (y:=y) oM];have:=gZ7 (aT s x) (aT s' y);exact w64 oM oM
   refine aA Tryz.func38 rfl Tryz.ntmps38 rfl ?_;intro w0 h0;refine kR ?_;refine vB jj<|vB jj<|vZ jj ?_;refine kR ?_;refine vL jj<|vC C1 ⟨jj,trivial⟩<|vL jj<|vC C2 ⟨jj,trivial⟩<|ja jj<|vZ jj ?_;refine kR ?_;refine vV jj jj<|jS (bVl jj jj b1)<|vZ jj ?_;refine kO ?_;refine WpD.condF rfl ?_;refine kR ?_;refine vV jj jj<|jS (bVg jj jj b2)<|vZ jj ?_;refine kO ?_;refine WpD.condF rfl ?_;refine kO ?_;refine WpD.skip ?_;refine kR ?_;refine jm jj<|vX jj<|vC C3 ⟨jj,trivial⟩<|vX jj<|vC C4 ⟨jj,trivial⟩<|vC C5 ⟨jj,jj,trivial⟩<|vMu jj e8<|vZ jj ?_;refine kO ?_;refine WpD.ret ?_;exact rtT rfl jj
end
def cZ4:Nat→Nat
 |0=>0
 |j+1=>2^j
theorem kZ0:∀n:Fin 65,∀i:Fin 7,(IntKind.i64.wrap ((BitVec.ofInt IntKind.i64.bits ((n.1:Nat):Int)&&&BitVec.ofInt IntKind.i64.bits ((cZ4 (i.1+1):Nat):Int)).toNat) !=0)=decide (n.1/2^i.1%2=1):=by decide+kernel
theorem nZf{n i:Nat}(hn:n≤64)(hi:i<7):(IntKind.i64.wrap ((BitVec.ofInt IntKind.i64.bits ((n:Nat):Int)&&&BitVec.ofInt IntKind.i64.bits ((cZ4 (i+1):Nat):Int)).toNat) !=0)=decide (n/2^i%2=1):=kZ0 ⟨n,oM⟩ ⟨i,hi⟩
theorem hZw:∀i:Fin 7,IntKind.i64.wrap (((cZ4 (i.1+1):Nat):Int).tdiv 2)=((cZ4 i.1:Nat):Int):=by decide+kernel
theorem jZ8{i:Nat}(hi:i<7):IntKind.i64.wrap (((cZ4 (i+1):Nat):Int).tdiv 2)=((cZ4 i:Nat):Int):=hZw ⟨i,hi⟩
theorem lZA{x k m:Nat}(h:x<B^k)(hk:k≤1073741824)(hm:m≤64):(aE (x^m)).length≤274877906944:=by
 refine Nat.le_trans (cN (k:=k*m+1) ?_) ?_
 ·refine Nat.lt_of_le_of_lt (Nat.pow_le_pow_left (Nat.le_of_lt h) m) ?_
  rw[←Nat.pow_mul];exact Nat.pow_lt_pow_right (by rw[bM];omega) oM
 ·have:k*m≤1073741824*64:=Nat.mul_le_mul hk hm
  omega
section
variable(En:Ev)
theorem ipow(s:Bool)(l:List Nat)(n:Nat)(hl:Lm l)(hlen:l.length≤1073741824)(hn:n≤64):
  Fn PZ En 70 [zR s l,i6 n] (dK [zC (zv s l^n),ex (.bool true)]):=by
 have C1:=jZ5 En 1 oM oM;have b1:decide ((n:Int)<0)=false:=decide_eq_false oM;have b2:decide ((n:Int)>64)=false:=decide_eq_false oM;have hlt:=fE hl;have sp:∀m,m≤64→(aE (zv s l^m).natAbs).length≤274877906944:=fun m hm=>by
  rw[Int.natAbs_pow,bZn];exact lZA hlt hlen hm
 generalize hX:zv s l=X at*;refine aA Tryz.func70 rfl Tryz.ntmps70 rfl ?_;intro w0 h0;refine kR ?_;refine vB jj<|vA jj<|vZ jj ?_;refine kR ?_;refine jm jj<|jS (bVl jj jj b1)<|jm jj ?_;refine kG ?_;first|refine jg (bVg jj jj b2) ?_|refine jk ?_
 refine kH ?_;refine jn ?_;refine kO ?_;refine WpD.condF rfl ?_;refine kO ?_;refine WpD.skip ?_;refine kR ?_;refine vC C1 ⟨jj,trivial⟩<|vA jj<|vP jj<|jn ?_;refine kR ?_;refine vZ jj ?_;refine kO ?_;refine WpD.loop (α:={j:Nat//j≤7}) (fun j=>⟨[(1,.one (i6 n)),(2,.ptr 2 0),(4,.ptr 4 0),(6,.ptr 6 0),(7,.one (i6 ((cZ4 j.1:Nat):Int)))],[(2,[ex (.bool s),mag l]),(4,[ex (.bool false),ex (.slice none 0 0)]),(6,cV (X^(n/2^j.1)))]⟩) (fun j=>j.1) ⟨7,Nat.le_refl _⟩ ?_ ?_
 ·have e:n/2^7=0:=Nat.div_eq_of_lt oM
  dsimp only;rw[e,Int.pow_zero];exact Sub.mk sJ sJ
 ·rintro⟨j,hj⟩
  dsimp only;cases j with
  |zero=>
   have b3:decide (((cZ4 0:Nat):Int)>0)=false:=by decide
   rw[Nat.pow_zero,Nat.div_one];refine kR ?_;refine jm jj<|jS (bVg jj jj b3)<|jn ?_;refine kO ?_;refine WpD.condF rfl ?_;refine kO ?_;refine WpD.exit ?_;refine kR ?_;refine vL jj<|vP jj<|vZ jj ?_;refine kO ?_;refine WpD.ret ?_;exact rtD rfl jj jj jj
  |succ j=>
   have b3:decide (((cZ4 (j+1):Nat):Int)>0)=true:=decide_eq_true (by show(((2^j:Nat)):Int)>0;have:=Nat.two_pow_pos j;omega)
   have e0:n/2^(j+1)=n/2^j/2:=by rw[Nat.pow_succ,Nat.div_div_eq_div_mul]
   have hN:n/2^j≤64:=Nat.le_trans (Nat.div_le_self _ _) hn;have ab:=nZf hn (i:=j) oM;have hb:=jZ8 (i:=j) oM;rw[e0];generalize hNe:n/2^j=N at*;have C2:=imul En (decide (X^(N/2)<0)) (aE (X^(N/2)).natAbs) (decide (X^(N/2)<0)) (aE (X^(N/2)).natAbs) (aJ _) (aJ _) (sp _ oM) (sp _ oM);rw[eP,←Int.pow_add] at C2;have C3:=imul En (decide (X^(N/2+N/2)<0)) (aE (X^(N/2+N/2)).natAbs) s l (aJ _) hl (sp _ oM) oM;rw[eP,hX,←Int.pow_succ] at C3
   by_cases hbit:N%2=1
   ·rw[decide_eq_true hbit] at ab
    have eN:(N/2+N/2).succ=N:=oM;rw[eN] at C3;refine kR ?_;refine jm jj<|jS (bVg jj jj b3)<|jn ?_;refine kO ?_;refine WpD.condT rfl ?_;refine kO ?_;refine WpD.skip ?_;refine kR ?_;refine vL jj<|vL jj<|vC C2 ⟨jj,jj,trivial⟩<|vP jj<|jn ?_;refine kR ?_;refine vV jj jj<|jS (aY jj jj (fun w=>rZ w _ _ _ _ _ _))<|jS (bVn jj jj ab)<|jn ?_;refine kO ?_;refine WpD.condT rfl ?_;refine kR ?_;refine vL jj<|vL jj<|vC C3 ⟨jj,jj,trivial⟩<|vP jj<|jn ?_;refine kR ?_;refine jm jj<|jS (bQu jj jj hb)<|vZ jj ?_;refine⟨⟨j,oM⟩,?_,Nat.lt_succ_self j⟩;dsimp only;rw[hNe];exact Sub.mk sJ sJ
   ·rw[decide_eq_false hbit] at ab
    have eN:N/2+N/2=N:=oM;rw[eN] at C2;refine kR ?_;refine jm jj<|jS (bVg jj jj b3)<|jn ?_;refine kO ?_;refine WpD.condT rfl ?_;refine kO ?_;refine WpD.skip ?_;refine kR ?_;refine vL jj<|vL jj<|vC C2 ⟨jj,jj,trivial⟩<|vP jj<|jn ?_;refine kR ?_;refine vV jj jj<|jS (aY jj jj (fun w=>rZ w _ _ _ _ _ _))<|jS (bVn jj jj ab)<|jn ?_;refine kO ?_;refine WpD.condF rfl ?_;refine kO ?_;refine WpD.skip ?_;refine kR ?_;refine jm jj<|jS (bQu jj jj hb)<|vZ jj ?_;refine⟨⟨j,oM⟩,?_,Nat.lt_succ_self j⟩;dsimp only;rw[hNe];exact Sub.mk sJ sJ
end
end
section
open Go.RowKit Limb
def zl(z:Int):Nat:=(aE z.natAbs).length
theorem dU(a b:Int):zl (a*b)≤zl a+zl b:=by unfold zl;rw[Int.natAbs_mul];exact jZY _ _
theorem nM{a b:Int}(h:a.natAbs≤b.natAbs):zl a≤zl b:=eC h
theorem oP(a b:Int):zl (a+b)≤max (zl a) (zl b)+1:=Nat.le_trans (eC (Int.natAbs_add_le a b)) (kZa _ _)
theorem wZ(a:Int):zl (-a)=zl a:=by unfold zl;rw[Int.natAbs_neg]
theorem dL{z:Int}(h1: -18446744073709551616<z)(h2:z<18446744073709551616):zl z≤2:=cN (by rw[bM];omega)
def Sz(b:Nat)(r:Rat):Prop:=zl r.num≤b∧zl (r.den:Int)≤b
theorem Sz.mono{a b:Nat}{r:Rat}(h:Sz a r)(hab:a≤b):Sz b r:=⟨Nat.le_trans h.1 hab,Nat.le_trans h.2 hab⟩
theorem pA(a b:Int)(h:b∣a):(a/b).natAbs≤a.natAbs:=by
 obtain⟨c,rfl⟩:=h
 by_cases hb:b=0
 ·subst hb;simp
 ·rw[Int.mul_ediv_cancel_left _ hb,Int.natAbs_mul]
  exact Nat.le_mul_of_pos_left _ (Int.natAbs_pos.2 hb)
def gd(n d:Int):Int:=if d<0 then-((Nat.gcd n.natAbs d.natAbs:Nat):Int) else((Nat.gcd n.natAbs d.natAbs:Nat):Int)
theorem jZA{n d:Int}(hd:d≠0):gd n d≠0:=by
 have:0<Nat.gcd n.natAbs d.natAbs:=Nat.gcd_pos_of_pos_right _ (Int.natAbs_pos.2 hd);unfold gd;split<;>omega
theorem cZi(n d:Int):gd n d∣n∧gd n d∣d:=by
 have h1:((Nat.gcd n.natAbs d.natAbs:Nat):Int)∣n:=Int.dvd_natAbs.1 (Int.natCast_dvd_natCast.2 (Nat.gcd_dvd_left _ _));have h2:((Nat.gcd n.natAbs d.natAbs:Nat):Int)∣d:=Int.dvd_natAbs.1 (Int.natCast_dvd_natCast.2 (Nat.gcd_dvd_right _ _));unfold gd;split
 ·exact⟨Int.neg_dvd.2 h1,Int.neg_dvd.2 h2⟩
 ·exact⟨h1,h2⟩
theorem gZf(n:Int){d:Int}(hd:d≠0):(Rat.divInt n d).num=n/gd n d∧((Rat.divInt n d).den:Int)=d/gd n d:=by
 have h1:((Nat.gcd n.natAbs d.natAbs:Nat):Int)∣n:=Int.dvd_natAbs.1 (Int.natCast_dvd_natCast.2 (Nat.gcd_dvd_left _ _));have h2:((Nat.gcd n.natAbs d.natAbs:Nat):Int)∣d:=Int.dvd_natAbs.1 (Int.natCast_dvd_natCast.2 (Nat.gcd_dvd_right _ _));have hg:d.gcd n=Nat.gcd n.natAbs d.natAbs:=by rw[Int.gcd_comm];rfl
 rw[Rat.num_divInt,Rat.den_divInt,if_neg hd,hg];unfold gd;generalize Nat.gcd n.natAbs d.natAbs=g at*
 by_cases h:d<0
 ·rw[if_pos h,Int.sign_eq_neg_one_of_neg h,Int.neg_mul,Int.one_mul,Int.ediv_neg,Int.ediv_neg,Int.neg_ediv_of_dvd h1]
  refine⟨rfl,?_⟩;rw[←Int.neg_ediv_of_dvd h2,Int.natCast_ediv,Int.ofNat_natAbs_of_nonpos oM]
 ·rw[if_neg h,Int.sign_eq_one_of_pos oM,Int.one_mul]
  refine⟨rfl,?_⟩;rw[Int.natCast_ediv,Int.natAbs_of_nonneg oM]
theorem fS{b:Nat}{n d:Int}(hd:d≠0)(h1:zl n≤b)(h2:zl d≤b):Sz b (Rat.divInt n d):=by
 obtain⟨e1,e2⟩:=gZf n hd;obtain⟨g1,g2⟩:=cZi n d;unfold Sz;rw[e1,e2];exact⟨Nat.le_trans (nM (pA _ _ g1)) h1,Nat.le_trans (nM (pA _ _ g2)) h2⟩
theorem lZc{b:Nat}{n:Int}(h:zl n≤b)(hb:1≤b):Sz b (n:Rat):=⟨by rw[Rat.num_intCast];exact h,by rw[Rat.den_intCast];exact Nat.le_trans (show zl ((1:Nat):Int)≤1 from by decide) hb⟩
theorem zV(r:Rat):(r.den:Int)≠0:=by have:=r.den_pos;omega
theorem bZB(r s:Rat):r+s=Rat.divInt (r.num*s.den+s.num*r.den) (r.den*s.den):=by
 have:=Rat.divInt_add_divInt r.num s.num (zV r) (zV s);rwa[Rat.num_divInt_den,Rat.num_divInt_den] at this
theorem fZP(r s:Rat):r*s=Rat.divInt (r.num*s.num) (r.den*s.den):=by
 have:=Rat.divInt_mul_divInt r.num s.num (d₁:=r.den) (d₂:=s.den);rwa[Rat.num_divInt_den,Rat.num_divInt_den] at this
theorem dZP(r s:Rat):(r.den:Int)*s.den≠0:=Int.mul_ne_zero (zV r) (zV s)
theorem bZs{a b:Nat}{r s:Rat}(h:Sz a r)(k:Sz b s):Sz (a+b+1) (r+s):=by
 rw[bZB];refine fS (dZP r s) ?_ ?_
 ·have:=oP (r.num*s.den) (s.num*r.den)
  have:=dU r.num s.den;have:=dU s.num r.den;have:=h.1;have:=h.2;have:=k.1;have:=k.2;omega
 ·have:=dU r.den s.den
  have:=h.2;have:=k.2;omega
theorem lI{a b:Nat}{r s:Rat}(h:Sz a r)(k:Sz b s):Sz (a+b) (r*s):=by
 rw[fZP];refine fS (dZP r s) ?_ ?_
 ·have:=dU r.num s.num
  have:=h.1;have:=k.1;omega
 ·have:=dU r.den s.den
  have:=h.2;have:=k.2;omega
theorem fZ6{a:Nat}{r:Rat}(h:Sz a r):Sz a (-r):=⟨by show zl (-r.num)≤a;rw[wZ];exact h.1,h.2⟩
theorem bZr{a:Nat}{r:Rat}(h:Sz a r)(h1:1≤a):Sz a r⁻¹:=by
 rw[Rat.inv_def]
 by_cases hz:r.num=0
 ·rw[hz,Rat.divInt_zero];exact⟨by show zl 0≤a;exact Nat.le_trans aD h1,by show zl 1≤a;exact Nat.le_trans aD h1⟩
 ·exact fS hz h.2 h.1
structure RQ where
 s:Bool
 l:List Nat
 t:Bool
 m:List Nat
def RQ.cells(p:RQ):List Pd:=[ex (.bool p.s),mag p.l,ex (.bool p.t),mag p.m]
def RQ.v(p:RQ):Rat:=Rat.divInt (zv p.s p.l) (zv p.t p.m)
structure RQ.ok(p:RQ):Prop where
 l:Lm p.l
 m:Lm p.m
 ll:p.l.length≤1073741824
 ml:p.m.length≤1073741824
def RQ.of(r:Rat):RQ:=⟨decide (r.num<0),aE r.num.natAbs,decide ((r.den:Int)<0),aE (r.den:Int).natAbs⟩
def qP(p:RQ):Pd:=cD p.cells
def qC(r:Rat):Pd:=qP (RQ.of r)
def tZ(r:Rat):List Pd:=(RQ.of r).cells
instance(p:RQ):CPart (qP p) p.cells:=⟨.inr rfl⟩
instance(r:Rat):CPart (qC r) (tZ r):=⟨.inr rfl⟩
theorem RQ.of_v(r:Rat):(RQ.of r).v=r:=by
 unfold RQ.v RQ.of;simp only;rw[eP,eP,Rat.num_divInt_den]
theorem RQ.of_ok{r:Rat}(h:Sz 1073741824 r):(RQ.of r).ok:=⟨aJ _,aJ _,h.1,h.2⟩
theorem rN(s:Bool){l:List Nat}(hl:Lm l):zl (zv s l)≤l.length:=by unfold zl;rw[bZn];exact cN (fE hl)
theorem RQ.sz{p:RQ}(h:p.ok):Sz 1073741824 p.v:=by
 unfold RQ.v
 by_cases hz:zv p.t p.m=0
 ·rw[hz,Rat.divInt_zero];exact⟨by show zl 0≤_;exact Nat.le_trans aD (show 1≤1073741824 by decide),by show zl 1≤_;exact Nat.le_trans aD (show 1≤1073741824 by decide)⟩
 ·exact fS hz (Nat.le_trans (rN _ h.l) h.ll) (Nat.le_trans (rN _ h.m) h.ml)
theorem eZM(n:Int){d:Int}(hd:d≠0):qC (Rat.divInt n d)=cD [ex (.bool (decide (n/gd n d<0))),mag (aE (n/gd n d).natAbs),ex (.bool (decide (d/gd n d<0))),mag (aE (d/gd n d).natAbs)]:=by
 obtain⟨e1,e2⟩:=gZf n hd;unfold qC qP RQ.cells RQ.of;rw[e1,e2]
end
section
open Go.RowKit Limb
instance kb65:CBody PZ 65:=cB Tryz.func65
instance kb102:CBody PZ 102:=cB Tryz.func102
instance kb107:CBody PZ 107:=cB Tryz.func107
section
variable(En:Ev)
theorem nZl(s:Bool)(l:List Nat)(hl:l.length≤1099511627776):Fn PZ En 108 [zR s l] (zC (zv s l)):=by
 have C1:=dZI En s l hl;refine aA Tryz.func108 rfl Tryz.ntmps108 rfl ?_;intro w0 h0;refine vS<|vB jj<|vA jj<|vJ<|vX jj<|vX jj<|vC C1 tB<|vP jj<|jn<|ji ?_;exact rtC rfl jj jj
theorem zneg(s:Bool)(l:List Nat)(hl:l.length≤1099511627776):Fn PZ En 66 [zR s l] (zC (-(zv s l))):=by
 have C1:=dZI En (!s) l hl;rw[show zv (!s) l= -(zv s l) by unfold zv aT;cases s<;>simp] at C1
 refine aA Tryz.func66 rfl Tryz.ntmps66 rfl ?_;intro w0 h0;refine vS<|vB jj<|vA jj<|vJ<|vX jj<|jS (bNo jj)<|vX jj<|vC C1 tB<|vP jj<|jn<|ji ?_;exact rtC rfl jj jj
theorem zmul(s:Bool)(a:List Nat)(t:Bool)(b:List Nat)(hla:Lm a)(hlb:Lm b)(ha:a.length≤1073741824)(hb:b.length≤1073741824):
  Fn PZ En 65 [zR s a,zR t b] (zC (zv s a*zv t b)):=by
 have e4:IntKind.i64.wrap ((a.length:Int)+(b.length:Int))=((a.length+b.length:Nat):Int):=by rw[w64 oM oM];omega
 refine aA Tryz.func65 rfl Tryz.ntmps65 rfl ?_;intro w0 h0;refine vS<|vB jj<|vB jj<|vA jj<|vJ<|vX jj<|jE jj<|vX jj<|jE jj<|vAd jj e4<|jT (nT jj jj jj jj oM oM)<|vZ jj<|js<|vS<|vX jj<|jE jj<|jm jj<|jn<|jb ?_;refine WpD.loop (α:={p:Nat×List Nat//p.1≤a.length∧ProdInv a b p.1 p.2}) (fun p=>⟨[(2,.ptr 2 0),(3,.ptr 3 0),(4,.ptr 4 0),(5,.own 18 0 (a.length+b.length) (a.length+b.length)),(20,.one (mag a)),(21,.one (i6 a.length)),(22,.one (i6 p.1.1))],[(2,[ex (.bool s),mag a]),(3,[ex (.bool t),mag b]),(4,[ex (.bool false),ex (.slice none 0 0)]),(18,(p.1.2++List.replicate (a.length-p.1.1) 0).map lb)]⟩) (fun p=>a.length-p.1.1) ⟨(0,List.replicate b.length 0),Nat.zero_le _,ProdInv.start a b⟩ ?_ ?_
 ·have hz:List.replicate (a.length+b.length) (ex (.int .u32 0))=(List.replicate b.length 0++List.replicate (a.length-0) 0).map lb:=by
   rw[qR,List.replicate_append_replicate,Nat.sub_zero,Nat.add_comm]
  exact Sub.mk sJ ⟨.inl pQ,.inl pQ,.inl pQ,.inl ⟨_,jj,PsLe.of_eq hz⟩,trivial⟩
 rintro⟨⟨i,Q⟩,hi,hP⟩;simp only at hi hP;dsimp only;obtain⟨hQl,hQm,hQv⟩:=id hP
 by_cases hlt:i<a.length
 ·obtain⟨x,hx⟩:∃x,a[i]? =some x:=⟨_,List.getElem?_eq_getElem hlt⟩
  have hxB:=hla.get hx;have e13:IntKind.i64.wrap ((i:Int)+1)=((i+1:Nat):Int):=by rw[w64 oM oM];omega
  have hrep:List.replicate (a.length-i) 0=0::List.replicate (a.length-(i+1)) 0:=by rw[show a.length-i=(a.length-(i+1))+1 by omega,List.replicate_succ]
  refine vS<|vLt jj<|vW jj<|vS<|jm jj<|jS (bY jj jj aM)<|vT jj<|ja jj<|vZ jj<|vS<|vZ jj<|js<|vS<|vX jj<|jE jj<|jm jj<|jn<|jb ?_;refine WpD.loop (α:={p:Nat×List Nat×Nat//p.1≤b.length∧MulInv (Q.drop i) b x p.1 p.2.1 p.2.2}) (fun p=>⟨[(2,.ptr 2 0),(3,.ptr 3 0),(4,.ptr 4 0),(5,.own 18 0 (a.length+b.length) (a.length+b.length)),(6,.one (i6 i)),(7,.one (lb x)),(8,.one (ex (.int .u64 (p.1.2.2:Int)))),(20,.one (mag a)),(21,.one (i6 a.length)),(22,.one (i6 i)),(28,.one (mag b)),(29,.one (i6 b.length)),(30,.one (i6 p.1.1))],[(2,[ex (.bool s),mag a]),(3,[ex (.bool t),mag b]),(4,[ex (.bool false),ex (.slice none 0 0)]),(18,(Q.take i++(p.1.2.1++((Q.drop i).drop p.1.1++List.replicate (a.length-i) 0))).map lb)]⟩) (fun p=>b.length-p.1.1) ⟨(0,[],0),Nat.zero_le _,MulInv.start _ _ _⟩ ?_ ?_
  ·have hz:(Q++List.replicate (a.length-i) 0).map lb=(Q.take i++([]++((Q.drop i).drop 0++List.replicate (a.length-i) 0))).map lb:=by
    rw[List.drop_zero,List.nil_append,←List.append_assoc,List.take_append_drop]
   exact Sub.mk sJ ⟨.inl pQ,.inl pQ,.inl pQ,.inl ⟨_,jj,PsLe.of_eq hz⟩,trivial⟩
  rintro⟨⟨j,N,c⟩,hj,hM⟩;simp only at hj hM;dsimp only;obtain⟨hNl,hNm,hcB,_⟩:=id hM;have hti:(Q.take i).length=i:=by simp;omega
  have hRl:(Q.drop i).length=b.length:=by simp;omega
  have hRm:=hQm.drop i;have eij:IntKind.i64.wrap ((i:Int)+(j:Int))=((i+j:Nat):Int):=by rw[w64 oM oM];omega
  by_cases hjb:j<b.length
  ·obtain⟨y,hy⟩:∃y,b[j]? =some y:=⟨_,List.getElem?_eq_getElem hjb⟩
   obtain⟨r,hr⟩:∃r,(Q.drop i)[j]? =some r:=⟨_,List.getElem?_eq_getElem oM⟩;have hyB:=hlb.get hy;have hrB:=hRm.get hr;obtain⟨m1,m2⟩:=mO hcB hxB hyB hrB;have hM':=MulInv.step hxB hRm hlb hy hr hM;rw[bM] at hxB hyB hrB hcB m1;have e2:IntKind.u64.wrap (x:Int)=(x:Int):=fC oM oM;have e4':IntKind.u64.wrap (y:Int)=(y:Int):=fC oM oM;have e5':IntKind.u64.wrap ((x:Int)*(y:Int))=((x*y:Nat):Int):=by rw[←Int.natCast_mul];exact fC oM oM
   have e10:IntKind.u64.wrap (r:Int)=(r:Int):=fC oM oM;have e11:IntKind.u64.wrap (((x*y:Nat):Int)+(r:Int))=((x*y+r:Nat):Int):=by rw[fC oM oM];omega
   have e12:IntKind.u64.wrap ((c:Int)+((x*y+r:Nat):Int))=((c+(x*y+r):Nat):Int):=by rw[fC oM oM];omega
   have hdr:(Q.drop i).drop j=r::(Q.drop i).drop (j+1):=by rw[List.drop_eq_getElem_cons (by omega:j<(Q.drop i).length),(List.getElem?_eq_some_iff.1 hr).2]
   have hget:((Q.take i++(N++((Q.drop i).drop j++List.replicate (a.length-i) 0))).map lb)[i+j]? =some (lb r):=by
    refine hZz ?_;rw[List.getElem?_append_right oM,hti,List.getElem?_append_right oM,hNl,hdr,show i+j-i-j=0 by omega]
    rfl
   have hidx:i+j<a.length+b.length:=oM;have hsetl:i+j<((Q.take i++(N++((Q.drop i).drop j++List.replicate (a.length-i) 0))).map lb).length:=by simp only[List.length_map,List.length_append,hti,hNl,List.length_drop,List.length_replicate];omega
   have hset:((Q.take i++(N++((Q.drop i).drop j++List.replicate (a.length-i) 0))).map lb).set (i+j) (ex (.int .u32 (((c+(x*y+r))%B:Nat):Int)))=(Q.take i++((N++[(c+(x*y+r))%B])++((Q.drop i).drop (j+1)++List.replicate (a.length-i) 0))).map lb:=by
    rw[hdr];have:=bZ2 (Q.take i++N) ((Q.drop i).drop (j+1)++List.replicate (a.length-i) 0) r ((c+(x*y+r))%B);rw[List.length_append,hti,hNl] at this;simp only[List.append_assoc,List.cons_append,List.nil_append] at this ⊢;exact this
   have e16:IntKind.i64.wrap ((j:Int)+1)=((j+1:Nat):Int):=by rw[w64 oM oM];omega
   refine vS<|vLt jj<|vW jj<|vS<|jm jj<|jS (bY jj jj aM)<|vT jj<|ja jj<|vZ jj<|vS<|vV jj jj<|jS (bCv jj e2)<|jm jj<|jS (bCv jj e4')<|vMu jj e5'<|vV jj jj<|jm jj<|vAd jj eij<|jS (dN jj jj aO)<|jS (aX jj jj aM)<|jS (bCv jj e10)<|vAd jj e11<|vAd jj e12<|vZ jj<|vS<|vV jj jj<|jm jj<|vAd jj eij<|jm jj<|jS (bCv jj (nO _))<|jS (dN jj jj aO)<|jO (bX jj jj jj aM aM)<|jn ?_;refine jr<|jm jj<|jS (aH jj jj (fun w=>dF w _ _ _ _ _ _ _ aW) (dV (rV _)))<|vZ jj<|jr<|vAd jj e16<|jm jj<|jn ?_;refine⟨⟨(j+1,N++[(c+(x*y+r))%B],(c+(x*y+r))/B),hjb,hM'⟩,?_,by simp only;omega⟩
   exact Sub.mk sJ sJ
  ·have hjb':j=b.length:=oM
   subst hjb';have hdr:(Q.drop i).drop b.length=[]:=List.drop_eq_nil_of_le oM;have hcw:((c%B:Nat):Int)=(c:Int):=by rw[Nat.mod_eq_of_lt hcB]
   have hidx:i+b.length<a.length+b.length:=oM;have hsetl:i+b.length<((Q.take i++(N++((Q.drop i).drop b.length++List.replicate (a.length-i) 0))).map lb).length:=by simp only[List.length_map,List.length_append,hti,hNl,List.length_drop,List.length_replicate];omega
   have hset:((Q.take i++(N++((Q.drop i).drop b.length++List.replicate (a.length-i) 0))).map lb).set (i+b.length) (ex (.int .u32 (c:Int)))=((Q.take i++N++[c])++List.replicate (a.length-(i+1)) 0).map lb:=by
    rw[hdr,hrep];have:=bZ2 (Q.take i++N) (List.replicate (a.length-(i+1)) 0) 0 c;rw[List.length_append,hti,hNl] at this;simp only[List.append_assoc,List.cons_append,List.nil_append] at this ⊢;exact this
   refine vS<|vLf jj<|vU jj<|jr<|vV jj jj<|vX jj<|jE jj<|vAd jj eij<|jm jj<|jS (bCv jj ((nO _).trans hcw))<|jS (dN jj jj aO)<|jO (bX jj jj jj aM aM)<|jn<|jr<|vAd jj e13<|jm jj<|jn ?_;refine⟨⟨(i+1,Q.take i++N++[c]),hlt,hP.step hx hM⟩,?_,by simp only;omega⟩
   exact Sub.mk sJ sJ
 ·have hia:i=a.length:=oM
  subst hia;obtain⟨d1,d2⟩:=hP.done;have C1:=dZI En (s !=t) Q oM;rw[show zv (s !=t) Q=zv s a*zv t b by unfold zv;rw[d2,cZP]] at C1
  rw[Nat.sub_self,List.replicate_zero,List.append_nil];refine vS<|vLf jj<|vU jj<|js ?_;refine WpD.sub (τ:=⟨[(2,.ptr 2 0),(3,.ptr 3 0),(4,.ptr 4 0),(5,.one (mag Q))],[(2,[ex (.bool s),mag a]),(3,[ex (.bool t),mag b]),(4,[ex (.bool false),ex (.slice none 0 0)])]⟩) ?_ ?_
  ·refine Sub.pub 18 rfl rfl ?_ ?_ rfl
   ·repeat(first|exact trivial|refine⟨.inl ⟨pK,trivial⟩,?_⟩|refine⟨.inl ⟨⟨_,rfl,rfl⟩,oN⟩,?_⟩|refine⟨.inl ⟨⟨_,rfl,rfl⟩,⟨oN,oN⟩⟩,?_⟩|refine⟨.inr (.inl ⟨_,_,_,_,rfl,rfl,by rw[←hQl];exact fI (Nat.le_refl _) d1⟩),?_⟩|refine⟨.inr (.inr (.inl ⟨_,_,_,rfl,rfl,by rw[←hQl];exact fI (Nat.le_refl _) d1⟩)),?_⟩)
   ·repeat(first|exact trivial|refine jz ?_|refine jy rfl ?_)
  refine kR ?_;refine vX jj<|vX jj<|jS (aY jj jj (fun w=>nR w CBool.ok _ _ _ _))<|jm jj<|vC C1 tB<|vP jj<|jn<|ji ?_;exact rtC rfl jj jj
theorem zquo(s:Bool)(l:List Nat)(s':Bool)(l':List Nat)(hl:l.length≤536870912)(hl':l'.length≤536870912)(hlm:Lm l)(hlm':Lm l')(hy:zv s' l'≠0):
  Fn PZ En 63 [zR s l,zR s' l'] (zC (zv s l/zv s' l')):=by
 have C1:=gZv En s l s' l' hl hl' hlm hlm' hy;refine aA Tryz.func63 rfl Tryz.ntmps63 rfl ?_;intro w0 h0;refine vS<|vB jj<|vB jj<|vA jj<|vJ<|vL jj<|vL jj<|vC C1 ⟨jj,jj,trivial⟩<|jm jj<|vE jj<|vE jj<|vE jj<|vA jj<|vA jj<|vP jj<|vP jj<|vZ jj<|vS<|vL jj<|vP jj<|jn<|ji ?_;exact rtC rfl jj jj
theorem iZs{z:Int}(h:z≠0):sg3 z≠0:=by unfold sg3;rw[if_neg h];split<;>decide
theorem zgcd(s:Bool)(l:List Nat)(s':Bool)(l':List Nat)(hl:Lm l)(hl':Lm l')(hlen:l.length≤536870912)(hlen':l'.length≤536870912):
  Fn PZ En 102 [zR s l,zR s' l'] (zC (Nat.gcd (zv s l).natAbs (zv s' l').natAbs:Nat)):=by
 have C1:=fabs En s l oM;have C2:=fabs En s' l' oM;have D1:=rN s hl;have D2:=rN s' hl';unfold zl at D1 D2;refine aA Tryz.func102 rfl Tryz.ntmps102 rfl ?_;intro w0 h0;refine vS<|vB jj<|vB jj<|vA jj<|vJ<|vL jj<|vC C1 ⟨jj,trivial⟩<|vL jj<|vC C2 ⟨jj,trivial⟩<|vA jj<|vA jj<|vP jj<|vP jj<|jn<|js<|jb ?_;refine WpD.loop (α:={p:Nat×Nat//Nat.gcd p.1 p.2=Nat.gcd (zv s l).natAbs (zv s' l').natAbs∧(aE p.1).length≤536870912∧(aE p.2).length≤536870912})
  (fun p=>⟨[(4,.ptr 4 0),(5,.ptr 5 0),(6,.ptr 6 0)],[(4,[ex (.bool false),ex (.slice none 0 0)]),(5,cV p.1.1),(6,cV p.1.2)]⟩) (fun p=>p.1.2) ⟨((zv s l).natAbs,(zv s' l').natAbs),rfl,oD,oD⟩ ?_ ?_
 ·exact Sub.mk sJ sJ
 rintro⟨⟨x,y⟩,hg,hx,hy⟩;dsimp only at hg hx hy ⊢;have C3:=gZ1 En (y:Int) (Nat.le_trans hy oM)
 by_cases hy0:y=0
 ·subst hy0
  have hgx:x=Nat.gcd (zv s l).natAbs (zv s' l').natAbs:=by rw[←hg];simp
  rw[←hgx];have h0:sg3 ((0:Nat):Int)=0:=rfl;refine js<|vS<|vL jj<|vC C3 ⟨jj,trivial⟩<|vNf jj<|jn<|jf jj<|je<|vS<|vL jj<|vP jj<|jn<|ji ?_;exact rtC rfl jj jj
 ·have h0:sg3 ((y:Nat):Int)≠0:=iZs oM
  have C4:=crem En (x:Int) (y:Int) hx hy oM;rw[show(x:Int)%(y:Int)=((x%y:Nat):Int) from rfl] at C4
  have hlt:=Nat.mod_lt x (Nat.pos_of_ne_zero hy0);refine js<|vS<|vL jj<|vC C3 ⟨jj,trivial⟩<|vNt jj<|jn<|jt jj<|jp<|jb<|jr<|vL jj<|vL jj<|vL jj<|vC C4 ⟨jj,jj,trivial⟩<|vP jj<|vP jj<|jn ?_;refine⟨⟨(y,x%y),by dsimp only;rw[←hg,Nat.gcd_comm x y,Nat.gcd_rec y x,Nat.gcd_comm],hy,Nat.le_trans (eC (Nat.le_of_lt hlt)) hy⟩,?_,hlt⟩
  exact Sub.mk sJ sJ
theorem zcmp(s:Bool)(l:List Nat)(s':Bool)(l':List Nat)(hl:Lm l)(hl':Lm l')(hlen:l.length≤1099511627776)(hlen':l'.length≤1099511627776):
  Fn PZ En 107 [zR s l,zR s' l'] (i6 (gJ (zv s l) (zv s' l'))):=by
 have C1:=aZX En s l hlen;have C2:=aZX En s' l' hlen';have C3:=qQ En l hlen;have C4:=qQ En l' hlen';have D1:=eK hlen hl;have D2:=eK hlen' hl';unfold zv at*;generalize val l=x at*;generalize val l'=y at*;have C5:=fcmp En (aE x) (aE y) oM oM;rw[iY] at C5
 by_cases h0:sg3 (aT s x)≠sg3 (aT s' y)
 ·by_cases h1:sg3 (aT s x)<sg3 (aT s' y)
  ·rw[show gJ (aT s x) (aT s' y)= -1 by unfold gJ;rw[if_pos (bZ0 h1)]]
   refine aA Tryz.func107 rfl Tryz.ntmps107 rfl ?_;intro w0 h0;refine vS<|vB jj<|vB jj<|vZ jj<|vS<|vL jj<|vC C1 ⟨jj,trivial⟩<|vL jj<|vC C2 ⟨jj,trivial⟩<|ja jj<|vZ jj<|js<|vS<|vV jj jj<|vNt jj<|jn<|jt jj<|js<|vS<|vV jj jj<|vLt jj<|jn<|jt jj<|vS<|vZ jj<|ji ?_;exact rtT rfl jj
  ·have h2:sg3 (aT s' y)<sg3 (aT s x):=oM
   have h3:=bZ0 h2;rw[show gJ (aT s x) (aT s' y)=1 by unfold gJ;rw[if_neg oM,if_pos h3]]
   refine aA Tryz.func107 rfl Tryz.ntmps107 rfl ?_;intro w0 h0;refine vS<|vB jj<|vB jj<|vZ jj<|vS<|vL jj<|vC C1 ⟨jj,trivial⟩<|vL jj<|vC C2 ⟨jj,trivial⟩<|ja jj<|vZ jj<|js<|vS<|vV jj jj<|vNt jj<|jn<|jt jj<|js<|vS<|vV jj jj<|vLf jj<|jn<|jf jj<|jp<|vS<|vZ jj<|ji ?_;exact rtT rfl jj
 ·have h0:sg3 (aT s x)=sg3 (aT s' y):=oM
  have e8:IntKind.i64.wrap (sg3 (aT s x)*(if x<y then-1 else if y<x then 1 else 0))=gJ (aT s x) (aT s' y):=by
   rw[kZl (s':=s') (y:=y) h0];have:=gZ7 (aT s x) (aT s' y);exact w64 oM oM
  refine aA Tryz.func107 rfl Tryz.ntmps107 rfl ?_;intro w0 h0;refine vS<|vB jj<|vB jj<|vZ jj<|vS<|vL jj<|vC C1 ⟨jj,trivial⟩<|vL jj<|vC C2 ⟨jj,trivial⟩<|ja jj<|vZ jj<|js<|vS<|vV jj jj<|vNf jj<|jn<|jf jj<|jp<|vS<|jm jj<|vX jj<|vC C3 ⟨jj,trivial⟩<|vX jj<|vC C4 ⟨jj,trivial⟩<|vC C5 ⟨jj,jj,trivial⟩<|vMu jj e8<|vZ jj<|ji ?_;exact rtT rfl jj
end
end
section
open Go.RowKit Limb
instance kb131:CBody PZ 131:=cB Tryz.func131
instance kb192:CBody PZ 192:=cB Tryz.func192
instance kb199:CBody PZ 199:=cB Tryz.func199
instance kb169:CBody PZ 169:=cB Tryz.func169
instance kb130:CBody PZ 130:=cB Tryz.func130
theorem iZp(s:Bool)(x y:Nat):aT s x+aT s y=aT s (x+y):=by unfold aT;cases s<;>simp<;>omega
theorem iZm{s:Bool}{x y:Nat}(h:y≤x):aT s x+aT (!s) y=aT s (x-y):=by unfold aT;cases s<;>simp<;>omega
theorem gZU{s:Bool}{x y:Nat}(h:x≤y):aT s x+aT (!s) y=aT (!s) (y-x):=by unfold aT;cases s<;>simp<;>omega
theorem iZn(s:Bool)(x:Nat):aT (!s) x= -aT s x:=by unfold aT;cases s<;>simp
section
variable(En:Ev)
theorem iaddS(s:Bool)(x:Nat)(t:Bool)(y:Nat)(hx:(aE x).length≤274877906944)(hy:(aE y).length≤274877906944):
  Fn PZ En 199 [ex (.bool s),mag (aE x),ex (.bool t),mag (aE y)] (zC (aT s x+aT t y)):=by
 by_cases hst:s=t
 ·subst hst
  rw[iZp];have C1:=nadd En (aE x) (aE y) oM oM (aJ _) (aJ _);rw[aN,aN] at C1;have hb:(s==s)=true:=by simp
  refine aA Tryz.func199 rfl Tryz.ntmps199 rfl ?_;intro w0 h0;refine vS<|vA jj<|jn<|js<|jb<|vS<|vV jj jj<|jS (aH jj jj (fun w=>eS w CBool.ok _ _ _ _) (dH hb))<|vZ jj<|jt jj<|vS<|vV jj jj<|jm jj<|vC C1 tB<|jS (aQ (jM En s (x+y)) tB)<|vP jj<|jn<|ji ?_;exact rtC rfl jj jj
 ·have ht:t= !s:=by cases s<;>cases t<;>simp_all
  subst ht;have hb:(s== !s)=false:=by simp
  have C0:=nC En (aE x) (aE y) oM (aJ _) (aJ _);rw[iY] at C0
  by_cases h:y≤x
  ·rw[iZm h]
   have C1:=nsub En (aE x) (aE y) oM (eC h) (aJ _) (aJ _) (by rw[aN,aN];exact h)
   rw[aN,aN] at C1;have hc:(if x<y then-1 else if y<x then 1 else 0:Int)≥0:=by repeat' split<;>omega
   refine aA Tryz.func199 rfl Tryz.ntmps199 rfl ?_;intro w0 h0;refine vS<|vA jj<|jn<|js<|jb<|vS<|vV jj jj<|jS (aH jj jj (fun w=>eS w CBool.ok _ _ _ _) (dH hb))<|vZ jj<|jf jj<|vS<|vV jj jj<|vC C0 tB<|jS (bHt jj jj)<|vZ jj<|jt jj<|vS<|vV jj jj<|jm jj<|vC C1 tB<|jS (aQ (jM En s (x-y)) tB)<|vP jj<|jn<|ji ?_;exact rtC rfl jj jj
  ·rw[gZU oM]
   have C1:=nsub En (aE y) (aE x) oM (eC oM) (aJ _) (aJ _) (by rw[aN,aN];omega)
   rw[aN,aN] at C1;have hc:¬(if x<y then-1 else if y<x then 1 else 0:Int)≥0:=by rw[if_pos oM];omega
   refine aA Tryz.func199 rfl Tryz.ntmps199 rfl ?_;intro w0 h0;refine vS<|vA jj<|jn<|js<|jb<|vS<|vV jj jj<|jS (aH jj jj (fun w=>eS w CBool.ok _ _ _ _) (dH hb))<|vZ jj<|jf jj<|vS<|vV jj jj<|vC C0 tB<|jS (bHf jj jj)<|vZ jj<|jf jj<|jp<|vS<|vV jj jj<|jm jj<|vC C1 tB<|jS (aQ (jM En (!s) (y-x)) tB)<|vP jj<|jn<|ji ?_;exact rtC rfl jj jj
theorem ineg(s:Bool)(l:List Nat)(hl:Lm l)(hlen:l.length≤274877906944):Fn PZ En 131 [zR s l] (zC (-(zv s l))):=by
 have C1:=iE En l hl oM;have D1:=eK hlen hl;unfold zv;generalize val l=x at*;rw[←iZn];refine aA Tryz.func131 rfl Tryz.ntmps131 rfl ?_;intro w0 h0;refine vS<|vB jj<|vA jj<|vJ<|vX jj<|jS (bNo jj)<|vX jj<|vC C1 tA<|jS (aQ (bZM En (aE x) (aJ _) oM) tA)<|jS (aQ (jM En (!s) x) tB)<|vP jj<|jn<|ji ?_;exact rtC rfl jj jj
theorem iadd(s:Bool)(l:List Nat)(s':Bool)(l':List Nat)(hl:Lm l)(hl':Lm l')(hlen:l.length≤274877906944)(hlen':l'.length≤274877906944):
  Fn PZ En 192 [zR s l,zR s' l'] (zC (zv s l+zv s' l')):=by
 have C1:=iE En l hl oM;have C2:=iE En l' hl' oM;have D1:=eK hlen hl;have D2:=eK hlen' hl';unfold zv;refine aA Tryz.func192 rfl Tryz.ntmps192 rfl ?_;intro w0 h0;refine vS<|vB jj<|vB jj<|vA jj<|vJ<|vX jj<|vX jj<|vC C1 tA<|vX jj<|vX jj<|vC C2 tA<|jS (aQ (iaddS En s _ s' _ D1 D2) tD)<|vP jj<|jn<|ji ?_;exact rtC rfl jj jj
theorem dZC(u v:Nat):Nat.gcd v (u%v)=Nat.gcd u v:=by rw[Nat.gcd_comm v,←Nat.gcd_rec,Nat.gcd_comm]
theorem kZb{v:Nat}:(aE v).length=0↔v=0:=by
 constructor
 ·intro h
  by_cases hv:v=0
  ·exact hv
  ·rw[dZ hv] at h;simp at h
 ·rintro rfl;rfl
theorem ngcd(x y:Nat)(hx:(aE x).length≤274877906944)(hy:(aE y).length≤274877906944):Fn PZ En 169 [mag (aE x),mag (aE y)] (mag (aE (Nat.gcd x y))):=by
 refine aA Tryz.func169 rfl Tryz.ntmps169 rfl ?_;intro w0 h0;refine vS<|vZ jj<|js<|jb ?_;refine WpD.loop (α:={p:Nat×Nat//Nat.gcd p.1 p.2=Nat.gcd x y∧(aE p.1).length≤274877906944∧(aE p.2).length≤274877906944}) (fun p=>⟨[(0,.one (mag (aE p.1.1))),(1,.one (mag (aE p.1.2)))],[]⟩) (fun p=>p.1.2) ⟨(x,y),rfl,hx,hy⟩ ?_ ?_
 ·exact Sub.mk sJ sJ
 rintro⟨⟨u,v⟩,hg,hu,hv⟩;dsimp only at hg hu hv ⊢;have next:v≠0→∃p:{p:Nat×Nat//Nat.gcd p.1 p.2=Nat.gcd x y∧(aE p.1).length≤274877906944∧(aE p.2).length≤274877906944},p.1=(v,u%v)∧u%v<v:=fun hv0=>by
  have hlt:=Nat.mod_lt u (Nat.pos_of_ne_zero hv0);exact⟨⟨(v,u%v),by rw[dZC];exact hg,hv,Nat.le_trans (eC (Nat.le_of_lt hlt)) hv⟩,rfl,hlt⟩
 have C4:=fun hv0:v≠0=>ndiv En u v oM hv0;unfold wK at C4
 by_cases h1:(aE u).length>2
 ·by_cases h3:(aE v).length=0
  ·have hv0:=kZb.1 h3
   subst hv0;have:u=Nat.gcd x y:=by simpa using hg
   rw[←this];refine js<|vS<|jm jj<|jE jj<|vGt jj<|jm jj<|jk<|jk<|jk<|vq jj<|jn<|jt jj<|jp<|jb<|js<|vS<|jm jj<|jE jj<|vEt jj<|jn<|jt jj<|vS<|jm jj<|jS (aQ (bZM En (aE u) (aJ _) oM) tA)<|vZ jj<|ji ?_;exact rtT rfl jj
  ·have hv0:v≠0:=fun h=>h3 (kZb.2 h)
   obtain⟨p,hp,hlt⟩:=next hv0;have C5:=C4 hv0;refine js<|vS<|jm jj<|jE jj<|vGt jj<|jm jj<|jk<|jk<|jk<|vq jj<|jn<|jt jj<|jp<|jb<|js<|vS<|jm jj<|jE jj<|vEf jj<|jn<|jf jj<|jp<|vS<|vV jj jj<|vC C5 tB<|jm jj<|vE jj<|vE jj<|ja jj<|vZ jj<|jr<|vV jj jj<|ja jj<|vZ jj ?_;refine⟨p,?_,by rw[hp];exact hlt⟩
   rw[hp];exact Sub.mk sJ sJ
 ·by_cases h2:(aE v).length>2
  ·have hv0:v≠0:=fun h=>by rw[kZb.2 h] at h2;omega
   obtain⟨p,hp,hlt⟩:=next hv0;have C5:=C4 hv0;refine js<|vS<|jm jj<|jE jj<|vGf jj<|jm jj<|jgm jj<|jg (dQ jj CSlice.ok)<|uGt jj<|vQ jj<|jn<|jt jj<|jp<|jb<|js<|vS<|jm jj<|jE jj<|vEf jj<|jn<|jf jj<|jp<|vS<|vV jj jj<|vC C5 tB<|jm jj<|vE jj<|vE jj<|ja jj<|vZ jj<|jr<|vV jj jj<|ja jj<|vZ jj ?_;refine⟨p,?_,by rw[hp];exact hlt⟩
   rw[hp];exact Sub.mk sJ sJ
  ·have W1:=aZG En (aE u) (aJ _) oM
   have W2:=aZG En (aE v) (aJ _) oM;rw[aN] at W1 W2;have hu64:u<18446744073709551616:=by have:=fE (aJ u);rw[aN] at this;exact Nat.lt_of_lt_of_le this (Nat.le_trans (Nat.pow_le_pow_right dD (show _≤2 by omega)) (by rw[bM];decide))
   have hv64:v<18446744073709551616:=by have:=fE (aJ v);rw[aN] at this;exact Nat.lt_of_lt_of_le this (Nat.le_trans (Nat.pow_le_pow_right dD (show _≤2 by omega)) (by rw[bM];decide))
   refine js<|vS<|jm jj<|jE jj<|vGf jj<|jm jj<|jgm jj<|jg (dQ jj CSlice.ok)<|uGf jj<|vQ jj<|jn<|jf jj<|je<|vS<|jm jj<|vC W1 tA<|jm jj<|vC W2 tA<|ja jj<|vZ jj<|js<|jb ?_;refine WpD.loop (α:={p:Nat×Nat//Nat.gcd p.1 p.2=Nat.gcd x y∧p.1<18446744073709551616∧p.2<18446744073709551616}) (fun p=>⟨[(7,.one (ex (.int .u64 (p.1.1:Nat)))),(8,.one (ex (.int .u64 (p.1.2:Nat))))],[]⟩) (fun p=>p.1.2) ⟨(u,v),hg,hu64,hv64⟩ ?_ ?_
   ·exact Sub.mk sJ sJ
   rintro⟨⟨p,q⟩,hpq,hp,hq⟩;dsimp only at hpq hp hq ⊢
   by_cases hq0:q=0
   ·subst hq0
    have e:p=Nat.gcd x y:=by simpa using hpq
    have C6:=kK En p hp;rw[←e];refine js<|vS<|jm jj<|vNf jj<|jn<|jf jj<|je<|vS<|jm jj<|vC C6 tA<|vZ jj<|ji ?_;exact rtT rfl jj
   ·have hlt:=Nat.mod_lt p (Nat.pos_of_ne_zero hq0)
    have e8:((p:Nat):Int).tmod (q:Nat)=((p%q:Nat):Int):=(Int.ofNat_tmod p q).symm;have hne:((q:Nat):Int)≠0:=oM;refine js<|vS<|jm jj<|vNt jj<|jn<|jt jj<|jp<|jb<|jr<|vV jj jj<|jm jj<|jS (bRe jj jj e8)<|ja jj<|vZ jj ?_;refine⟨⟨(q,p%q),by rw[dZC];exact hpq,hq,Nat.lt_trans hlt hq⟩,?_,hlt⟩
    exact Sub.mk sJ sJ
theorem igcd(s:Bool)(l:List Nat)(s':Bool)(l':List Nat)(hl:Lm l)(hl':Lm l')(hlen:l.length≤274877906944)(hlen':l'.length≤274877906944):
  Fn PZ En 130 [zR s l,zR s' l'] (zC (Nat.gcd (zv s l).natAbs (zv s' l').natAbs:Nat)):=by
 have C1:=iE En l hl oM;have C2:=iE En l' hl' oM;have D1:=eK hlen hl;have D2:=eK hlen' hl';rw[bZn,bZn];have C4:=jM En false (Nat.gcd (val l) (val l'));rw[show aT false (Nat.gcd (val l) (val l'))=((Nat.gcd (val l) (val l'):Nat):Int) from rfl] at C4
 refine aA Tryz.func130 rfl Tryz.ntmps130 rfl ?_;intro w0 h0;refine vS<|vB jj<|vB jj<|vA jj<|vJ<|vX jj<|vC C1 tA<|vX jj<|vC C2 tA<|jS (aQ (ngcd En _ _ D1 D2) tB)<|vC C4 tB<|vP jj<|jn<|ji ?_;exact rtC rfl jj jj
end
end
section
open Go.RowKit Limb
instance qZk:CRow Tryz.prog 34 4:=⟨⟨_,Tryz.underlying34,rfl,by kernel_rfl⟩⟩
instance nZU:CField Tryz.prog 34 0 0:=⟨⟨_,_,Tryz.underlying34,rfl,rfl,by kernel_rfl⟩⟩
instance nZT:CField Tryz.prog 34 1 2:=⟨⟨_,_,Tryz.underlying34,rfl,rfl,by kernel_rfl⟩⟩
theorem cZ8:gR Tryz.prog 34 [.bool false,.slice none 0 0,.bool false,.slice none 0 0]:=⟨by kernel_rfl,by simp[Value.oneCell']⟩
instance pZL:CZero Tryz.prog 34 [.bool false,.slice none 0 0,.bool false,.slice none 0 0]:=⟨cZ8⟩
instance nZH:CStruct Tryz.prog 34 [(0,2),(2,2)] [.bool false,.slice none 0 0,.bool false,.slice none 0 0]:=⟨⟨cZ8,_,Tryz.underlying34,fun _=>by kernel_rfl⟩⟩
instance crow_fr:CRow Tryz.prog 86 4:=⟨⟨_,Tryz.underlying86,rfl,by kernel_rfl⟩⟩
instance pZ8:CField Tryz.prog 86 0 0:=⟨⟨_,_,Tryz.underlying86,rfl,rfl,by kernel_rfl⟩⟩
instance pZ7:CField Tryz.prog 86 1 2:=⟨⟨_,_,Tryz.underlying86,rfl,rfl,by kernel_rfl⟩⟩
instance nZS:CFieldT Tryz.prog 86 1 2 32:=⟨⟨_,_,Tryz.underlying86,rfl,rfl,rfl⟩⟩
instance qZe:CZero Tryz.prog 86 [.bool false,.slice none 0 0,.bool false,.slice none 0 0]:=⟨⟨by kernel_rfl,by simp[Value.oneCell']⟩⟩
instance pZt:CSlice Tryz.prog 176 34:=⟨Tryz.underlying176⟩
instance qZa:CElem Tryz.prog 176 34 4:=⟨Tryz.underlying176,by kernel_rfl⟩
instance pZQ:CRowZ Tryz.prog 34 4 [.bool false,.slice none 0 0,.bool false,.slice none 0 0] 64:=⟨by kernel_rfl,rfl,rfl⟩
instance kb71:CBody PZ 71:=cB Tryz.func71
instance kb72:CBody PZ 72:=cB Tryz.func72
instance kb93:CBody PZ 93:=cB Tryz.func93
instance kb37:CBody PZ 37:=cB Tryz.func37
instance kb173:CBody PZ 173:=cB Tryz.func173
instance kb74:CBody PZ 74:=cB Tryz.func74
instance kb135:CBody PZ 135:=cB Tryz.func135
instance kb28:CBody PZ 28:=cB Tryz.func28
instance kb77:CBody PZ 77:=cB Tryz.func77
instance kb174:CBody PZ 174:=cB Tryz.func174
instance kb13:CBody PZ 13:=cB Tryz.func13
instance kb26:CBody PZ 26:=cB Tryz.func26
instance kb12:CBody PZ 12:=cB Tryz.func12
instance kb67:CBody PZ 67:=cB Tryz.func67
instance kb36:CBody PZ 36:=cB Tryz.func36
section
variable(En:Ev)
theorem zA(n:Int)(h1: -9223372036854775808≤n)(h2:n≤9223372036854775807):Fn PZ En 73 [i6 n] (zC n):=jZ5 En n h1 h2
theorem ksign(a:Int)(ha:zl a≤274877906944):Fn PZ En 40 [zC a] (i6 (sg3 a)):=by
 have:=zB En (decide (a<0)) _ (aJ a.natAbs) (Nat.le_trans ha oM);rwa[eP] at this
theorem kneg(a:Int)(ha:zl a≤274877906944):Fn PZ En 131 [zC a] (zC (-a)):=by
 have:=ineg En (decide (a<0)) _ (aJ a.natAbs) ha;rwa[eP] at this
theorem wF(a b:Int)(ha:zl a≤274877906944)(hb:zl b≤274877906944):Fn PZ En 39 [zC a,zC b] (zC (a*b)):=by
 have:=imul En (decide (a<0)) _ (decide (b<0)) _ (aJ a.natAbs) (aJ b.natAbs) ha hb;rwa[eP,eP] at this
theorem kadd(a b:Int)(ha:zl a≤274877906944)(hb:zl b≤274877906944):Fn PZ En 192 [zC a,zC b] (zC (a+b)):=by
 have:=iadd En (decide (a<0)) _ (decide (b<0)) _ (aJ a.natAbs) (aJ b.natAbs) ha hb;rwa[eP,eP] at this
theorem kcmp(a b:Int)(ha:zl a≤274877906944)(hb:zl b≤274877906944):Fn PZ En 38 [zC a,zC b] (i6 (gJ a b)):=by
 have:=icmp En (decide (a<0)) _ (decide (b<0)) _ (aJ a.natAbs) (aJ b.natAbs) ha hb;rwa[eP,eP] at this
theorem lZU(a:Int)(n:Nat)(ha:zl a≤1073741824)(hn:n≤64):Fn PZ En 70 [zC a,i6 n] (dK [zC (a^n),ex (.bool true)]):=by
 have:=ipow En (decide (a<0)) _ n (aJ a.natAbs) ha hn;rwa[eP] at this
theorem fZM(s:Bool)(l:List Nat)(s':Bool)(l':List Nat)(hl:Lm l)(hl':Lm l')(hlen:l.length≤274877906944)(hlen':l'.length≤274877906944)(hd:zv s' l'≠0):
  Fn PZ En 71 [zR s l,zR s' l'] (qC (Rat.divInt (zv s l) (zv s' l'))):=by
 rw[eZM _ hd];have hg0:=jZA (n:=zv s l) hd;have hgl:zl (gd (zv s l) (zv s' l'))≤274877906944:=by
  have h1:(gd (zv s l) (zv s' l')).natAbs≤(zv s' l').natAbs:=Nat.le_of_dvd (Int.natAbs_pos.2 hd) (Int.natAbs_dvd_natAbs.2 (cZi _ _).2);exact Nat.le_trans (nM h1) (Nat.le_trans (rN _ hl') hlen')
 have C1:=igcd En s l s' l' hl hl' hlen hlen';have C2:=zB En s' l' hl' oM;have C3:=gZl En s l (decide (gd (zv s l) (zv s' l')<0)) (aE (gd (zv s l) (zv s' l')).natAbs) hl (aJ _) hlen hgl (by rw[eP];exact hg0)
 have C4:=gZl En s' l' (decide (gd (zv s l) (zv s' l')<0)) (aE (gd (zv s l) (zv s' l')).natAbs) hl' (aJ _) hlen' hgl (by rw[eP];exact hg0)
 rw[eP] at C3 C4
 by_cases hn:zv s' l'<0
 ·have e:gd (zv s l) (zv s' l')= -((Nat.gcd (zv s l).natAbs (zv s' l').natAbs:Nat):Int):=by unfold gd;rw[if_pos hn]
  have C5:=kneg En ((Nat.gcd (zv s l).natAbs (zv s' l').natAbs:Nat):Int) (by rw[←wZ,←e];exact hgl)
  rw[←e] at C5;have hs:sg3 (zv s' l')<0:=by unfold sg3;rw[if_neg hd,if_pos hn];decide
  refine aA Tryz.func71 rfl Tryz.ntmps71 rfl ?_;intro w0 h0;refine vS<|vB jj<|vB jj<|vA jj<|vJ<|vL jj<|vL jj<|vC C1 ⟨jj,jj,trivial⟩<|vA jj<|vP jj<|jn<|js<|vS<|vL jj<|vC C2 ⟨jj,trivial⟩<|vLt jj<|jn<|jt jj<|jr<|vL jj<|vC C5 ⟨jj,trivial⟩<|vP jj<|vJ<|vL jj<|vL jj<|vC C3 ⟨jj,jj,trivial⟩<|jm jj<|vE jj<|vE jj<|vE jj<|vP jj<|vJ<|vL jj<|vL jj<|vC C4 ⟨jj,jj,trivial⟩<|jm jj<|vE jj<|vE jj<|vE jj<|vP jj<|jn ?_;refine vS<|vL jj<|vL jj<|jS (aU (ps:=[(_,_),(_,_)]) ⟨jj,Part.c jj,jj,Part.c jj,trivial⟩ jj)<|vP jj<|jn<|ji ?_;exact rtC rfl jj jj
 ·have e:gd (zv s l) (zv s' l')=((Nat.gcd (zv s l).natAbs (zv s' l').natAbs:Nat):Int):=by unfold gd;rw[if_neg hn]
  rw[←e] at C1;have hs:¬sg3 (zv s' l')<0:=by unfold sg3;rw[if_neg hd,if_neg hn];decide
  refine aA Tryz.func71 rfl Tryz.ntmps71 rfl ?_;intro w0 h0;refine vS<|vB jj<|vB jj<|vA jj<|vJ<|vL jj<|vL jj<|vC C1 ⟨jj,jj,trivial⟩<|vA jj<|vP jj<|jn<|js<|vS<|vL jj<|vC C2 ⟨jj,trivial⟩<|vLf jj<|jn<|jf jj<|jp<|vS<|vL jj<|vL jj<|vC C3 ⟨jj,jj,trivial⟩<|jm jj<|vE jj<|vE jj<|vE jj<|vP jj<|vJ<|vL jj<|vL jj<|vC C4 ⟨jj,jj,trivial⟩<|jm jj<|vE jj<|vE jj<|vE jj<|vP jj<|jn ?_;refine vS<|vL jj<|vL jj<|jS (aU (ps:=[(_,_),(_,_)]) ⟨jj,Part.c jj,jj,Part.c jj,trivial⟩ jj)<|vP jj<|jn<|ji ?_;exact rtC rfl jj jj
theorem wU(a b:Int)(ha:zl a≤274877906944)(hb:zl b≤274877906944)(h:b≠0):Fn PZ En 71 [zC a,zC b] (qC (Rat.divInt a b)):=by
 have:=fZM En (decide (a<0)) _ (decide (b<0)) _ (aJ a.natAbs) (aJ b.natAbs) ha hb (by rw[eP];exact h)
 rwa[eP,eP] at this
theorem oZ3(s:Bool)(l:List Nat)(hl:Lm l)(hlen:l.length≤274877906944):Fn PZ En 72 [zR s l] (qC (zv s l:Rat)):=by
 have C1:=fZd En s l hl hlen;have C2:=zA En 1 oM oM;have e:qC ((zv s l:Int):Rat)=cD [ex (.bool (decide (zv s l<0))),mag (aE (zv s l).natAbs),ex (.bool (decide ((1:Int)<0))),mag (aE (1:Int).natAbs)]:=by
  unfold qC qP RQ.cells RQ.of;rw[Rat.num_intCast,Rat.den_intCast];rfl
 rw[e];refine aA Tryz.func72 rfl Tryz.ntmps72 rfl ?_;intro w0 h0;refine vS<|vB jj<|vA jj<|vJ<|vL jj<|vC C1 ⟨jj,trivial⟩<|vC C2 ⟨jj,trivial⟩<|jS (aU (ps:=[(_,_),(_,_)]) ⟨jj,Part.c jj,jj,Part.c jj,trivial⟩ jj)<|vP jj<|jn<|ji ?_;exact rtC rfl jj jj
theorem jZ2(a:Int)(ha:zl a≤274877906944):Fn PZ En 72 [zC a] (qC (a:Rat)):=by
 have:=oZ3 En (decide (a<0)) _ (aJ a.natAbs) ha;rwa[eP] at this
theorem eZI(p:RQ)(hp:p.ok):Fn PZ En 93 [qP p] (qC p.v):=by
 have hll:=hp.ll;have hml:=hp.ml;have C1:=zB En p.t p.m hp.m oM
 by_cases hz:zv p.t p.m=0
 ·have e:p.v=((0:Int):Rat):=by unfold RQ.v;rw[hz,Rat.divInt_zero];rfl
  rw[e];have hs:sg3 (zv p.t p.m)=0:=by rw[hz];rfl
  have C2:=(jZ2 En 0 aD).arg (ps:=[cD [ex (.bool false),ex (.slice none 0 0)]]) ⟨eZx,trivial⟩;refine aA Tryz.func93 rfl Tryz.ntmps93 rfl ?_;intro w0 h0;refine vS<|vB jj<|vA jj<|jn<|js<|vS<|vF jj<|vL jj<|vC C1 ⟨jj,trivial⟩<|vEt jj<|jn<|jt jj<|vS<|jS (aU (ps:=[]) trivial jj)<|vC C2 ⟨jj,trivial⟩<|vP jj<|jn<|ji ?_;exact rtC rfl jj jj
 ·have hs:sg3 (zv p.t p.m)≠0:=by unfold sg3;rw[if_neg hz];split<;>decide
  have C2:=fZM En p.s p.l p.t p.m hp.l hp.m oM oM hz;refine aA Tryz.func93 rfl Tryz.ntmps93 rfl ?_;intro w0 h0;refine vS<|vB jj<|vA jj<|jn<|js<|vS<|vF jj<|vL jj<|vC C1 ⟨jj,trivial⟩<|vEf jj<|jn<|jf jj<|jp<|vS<|vF jj<|vL jj<|vF jj<|vL jj<|vC C2 ⟨jj,jj,trivial⟩<|vP jj<|jn<|ji ?_;exact rtC rfl jj jj
theorem eQ(p:RQ)(hp:p.ok):Fn PZ En 37 [qP p] (qC p.v):=by
 have C1:=eZI En p hp;refine aA Tryz.func37 rfl Tryz.ntmps37 rfl ?_;intro w0 h0;refine vS<|vB jj<|vA jj<|vJ<|vL jj<|vC C1 ⟨jj,trivial⟩<|vP jj<|jn<|ji ?_;exact rtC rfl jj jj
theorem lZu(r:Rat)(hr:Sz 1073741824 r):Fn PZ En 36 [qC r] (i6 (sg3 r.num)):=by
 have C1:=ksign En r.num (Nat.le_trans hr.1 oM);refine aA Tryz.func36 rfl Tryz.ntmps36 rfl ?_;intro w0 h0;refine vS<|vB jj<|vZ jj<|vS<|vF jj<|vL jj<|vC C1 ⟨jj,trivial⟩<|vZ jj<|ji ?_;exact rtT rfl jj
theorem rsum(p q:RQ)(hp:p.ok)(hq:q.ok):Fn PZ En 173 [slc 4 (p.cells++q.cells) 2] (qC (p.v+q.v)):=by
 have hr:=RQ.sz hp;have hs:=RQ.sz hq;have K1:=eQ En p hp;have K2:=eQ En q hq;generalize p.v=r at*;generalize q.v=s at*;obtain⟨r1,r2⟩:=hr;obtain⟨s1,s2⟩:=hs;have S1:=zA En 1 oM oM;have z0:zl 0≤1:=by decide
 have z1:zl 1≤1:=by decide
 have A1:=dU r.num s.den;have A2:=dU s.num r.den;have A3:=dU r.den s.den;have A4:=oP (r.num*s.den) (s.num*r.den);let N:Nat→Int:=fun i=>if i=0 then 0 else if i=1 then r.num else r.num*s.den+s.num*r.den
 let D:Nat→Int:=fun i=>if i=0 then 1 else if i=1 then r.den else r.den*s.den
 have F:=wU En (r.num*s.den+s.num*r.den) (r.den*s.den) oM oM (dZP r s);rw[←bZB] at F;have hw1:IntKind.i64.wrap (((0:Nat):Int)+1)=((1:Nat):Int):=by decide
 have hw2:IntKind.i64.wrap (((1:Nat):Int)+1)=((2:Nat):Int):=by decide
 have q0:((p.cells++q.cells).drop (0*4)).take 4=p.cells:=rfl;have q1:((p.cells++q.cells).drop (1*4)).take 4=q.cells:=rfl;refine aA Tryz.func173 rfl Tryz.ntmps173 rfl ?_;intro w0 h0;refine vS<|vA jj<|vJ<|jS (aU (ps:=[]) trivial jj)<|vC S1 ⟨jj,trivial⟩<|vA jj<|vA jj<|vP jj<|vP jj<|jn<|js<|vS<|jm jj<|jE jj<|jm jj<|jn<|jb ?_;refine WpD.loop (α:={i:Nat//i≤2}) (fun i=>⟨[(2,.ptr 2 0),(3,.ptr 3 0),(4,.ptr 4 0),(10,.one (slc 4 (p.cells++q.cells) 2)),(11,.one (i6 ((2:Nat):Int))),(12,.one (i6 ((i.1:Nat):Int)))],[(3,cV (N i.1)),(4,cV (D i.1)),(2,[ex (.bool false),ex (.slice none 0 0),ex (.bool false),ex (.slice none 0 0)])]⟩) (fun i=>2-i.1) ⟨0,oM⟩ ?_ ?_
 ·exact Sub.mk sJ ⟨.inl ⟨_,jj,⟨PLe.refl _,pX,trivial⟩⟩,.inl pQ,.inl pQ,trivial⟩
 rintro⟨i,hi⟩;dsimp only;have hcase:i=0∨i=1∨i=2:=oM;rcases hcase with rfl|rfl|rfl
 ·have m1:=wF En 0 r.den oM oM
  have m2:=wF En r.num 1 oM oM;have m3:=kadd En (0*r.den) (r.num*1) (by rw[Int.zero_mul];omega) (by rw[Int.mul_one];omega)
  have m4:=wF En 1 r.den oM oM;rw[Int.zero_mul] at m1 m3;rw[Int.mul_one] at m2 m3;rw[Int.zero_add] at m3;rw[Int.one_mul] at m4;refine vS<|vLt jj<|vW jj<|vS<|vD jj aO aM<|vR jj<|vA jj<|vP jj<|vJ<|vL jj<|vC K1 ⟨jj,trivial⟩<|vA jj<|vP jj<|vJ<|vL jj<|vF jj<|vL jj<|vC m1 ⟨jj,jj,trivial⟩<|vF jj<|vL jj<|vL jj<|vC m2 ⟨jj,jj,trivial⟩<|vC m3 ⟨jj,jj,trivial⟩<|vP jj<|jn<|jr<|vL jj<|vF jj<|vL jj<|vC m4 ⟨jj,jj,trivial⟩<|vP jj<|jn ?_;refine jr<|vAd jj hw1<|jm jj<|jn ?_;refine⟨⟨1,oM⟩,?_,oD⟩;exact Sub.mk sJ sJ
 ·have m1:=wF En r.num s.den oM oM
  have m2:=wF En s.num r.den oM oM;have m3:=kadd En (r.num*s.den) (s.num*r.den) oM oM;have m4:=wF En r.den s.den oM oM;refine vS<|vLt jj<|vW jj<|vS<|vD jj aO aM<|vR jj<|vA jj<|vP jj<|vJ<|vL jj<|vC K2 ⟨jj,trivial⟩<|vA jj<|vP jj<|vJ<|vL jj<|vF jj<|vL jj<|vC m1 ⟨jj,jj,trivial⟩<|vF jj<|vL jj<|vL jj<|vC m2 ⟨jj,jj,trivial⟩<|vC m3 ⟨jj,jj,trivial⟩<|vP jj<|jn<|jr<|vL jj<|vF jj<|vL jj<|vC m4 ⟨jj,jj,trivial⟩<|vP jj<|jn ?_;refine jr<|vAd jj hw2<|jm jj<|jn ?_;refine⟨⟨2,oM⟩,?_,oD⟩;exact Sub.mk sJ sJ
 ·refine vS<|vLf jj<|vU jj<|vS<|vL jj<|vL jj<|vC F ⟨jj,jj,trivial⟩<|vP jj<|jn<|ji ?_
  exact rtC rfl jj jj
theorem cZV(p q:RQ)(hp:p.ok)(hq:q.ok):Fn PZ En 74 [slc 4 (p.cells++q.cells) 2] (qC (p.v*q.v)):=by
 have hr:=RQ.sz hp;have hs:=RQ.sz hq;have K1:=eQ En p hp;have K2:=eQ En q hq;generalize p.v=r at*;generalize q.v=s at*;obtain⟨r1,r2⟩:=hr;obtain⟨s1,s2⟩:=hs;have S1:=zA En 1 oM oM;have z1:zl 1≤1:=by decide
 have A1:=dU r.num s.num;have A3:=dU r.den s.den;let N:Nat→Int:=fun i=>if i=0 then 1 else if i=1 then r.num else r.num*s.num
 let D:Nat→Int:=fun i=>if i=0 then 1 else if i=1 then r.den else r.den*s.den
 have F:=wU En (r.num*s.num) (r.den*s.den) oM oM (dZP r s);rw[←fZP] at F;have hw1:IntKind.i64.wrap (((0:Nat):Int)+1)=((1:Nat):Int):=by decide
 have hw2:IntKind.i64.wrap (((1:Nat):Int)+1)=((2:Nat):Int):=by decide
 have q0:((p.cells++q.cells).drop (0*4)).take 4=p.cells:=rfl;have q1:((p.cells++q.cells).drop (1*4)).take 4=q.cells:=rfl;refine aA Tryz.func74 rfl Tryz.ntmps74 rfl ?_;intro w0 h0;refine vS<|vA jj<|vJ<|vC S1 ⟨jj,trivial⟩<|vC S1 ⟨jj,trivial⟩<|vA jj<|vA jj<|vP jj<|vP jj<|jn<|js<|vS<|jm jj<|jE jj<|jm jj<|jn<|jb ?_;refine WpD.loop (α:={i:Nat//i≤2}) (fun i=>⟨[(2,.ptr 2 0),(3,.ptr 3 0),(4,.ptr 4 0),(10,.one (slc 4 (p.cells++q.cells) 2)),(11,.one (i6 ((2:Nat):Int))),(12,.one (i6 ((i.1:Nat):Int)))],[(3,cV (N i.1)),(4,cV (D i.1)),(2,[ex (.bool false),ex (.slice none 0 0),ex (.bool false),ex (.slice none 0 0)])]⟩) (fun i=>2-i.1) ⟨0,oM⟩ ?_ ?_
 ·exact Sub.mk sJ sJ
 rintro⟨i,hi⟩;dsimp only;have hcase:i=0∨i=1∨i=2:=oM;rcases hcase with rfl|rfl|rfl
 ·have m1:=wF En 1 r.num oM oM
  have m4:=wF En 1 r.den oM oM;rw[Int.one_mul] at m1 m4;refine vS<|vLt jj<|vW jj<|vS<|vD jj aO aM<|vR jj<|vA jj<|vP jj<|vJ<|vL jj<|vC K1 ⟨jj,trivial⟩<|vA jj<|vP jj<|jn<|jr<|vL jj<|vF jj<|vL jj<|vC m1 ⟨jj,jj,trivial⟩<|vL jj<|vF jj<|vL jj<|vC m4 ⟨jj,jj,trivial⟩<|vP jj<|vP jj<|jn<|jr<|vAd jj hw1<|jm jj<|jn ?_;refine⟨⟨1,oM⟩,?_,oD⟩;exact Sub.mk sJ sJ
 ·have m1:=wF En r.num s.num oM oM
  have m4:=wF En r.den s.den oM oM;refine vS<|vLt jj<|vW jj<|vS<|vD jj aO aM<|vR jj<|vA jj<|vP jj<|vJ<|vL jj<|vC K2 ⟨jj,trivial⟩<|vA jj<|vP jj<|jn<|jr<|vL jj<|vF jj<|vL jj<|vC m1 ⟨jj,jj,trivial⟩<|vL jj<|vF jj<|vL jj<|vC m4 ⟨jj,jj,trivial⟩<|vP jj<|vP jj<|jn<|jr<|vAd jj hw2<|jm jj<|jn ?_;refine⟨⟨2,oM⟩,?_,oD⟩;exact Sub.mk sJ sJ
 ·refine vS<|vLf jj<|vU jj<|vS<|vL jj<|vL jj<|vC F ⟨jj,jj,trivial⟩<|vP jj<|jn<|ji ?_
  exact rtC rfl jj jj
theorem rmul(p q:RQ)(hp:p.ok)(hq:q.ok):Fn PZ En 28 [qP p,qP q] (qC (p.v*q.v)):=by
 have C1:=cZV En p q hp hq;refine aA Tryz.func28 rfl Tryz.ntmps28 rfl ?_;intro w0 h0;refine vS<|vB jj<|vB jj<|vA jj<|vJ<|vL jj<|vL jj<|jS (bW (ps:=[(_,_),(_,_)]) ⟨jj,Part.c jj,jj,Part.c jj,trivial⟩ jj jj jj)<|vC C1 tA<|vP jj<|jn<|ji ?_;exact rtC rfl jj jj
theorem qC_mk(r:Rat){a b:Int}(h1:r.num=a)(h2:(r.den:Int)=b):qC r=cD [ex (.bool (decide (a<0))),mag (aE a.natAbs),ex (.bool (decide (b<0))),mag (aE b.natAbs)]:=by
 subst h1;subst h2;rfl
theorem rneg(p:RQ)(hp:p.ok):Fn PZ En 174 [qP p] (qC (-p.v)):=by
 have hr:=RQ.sz hp;have C1:=eQ En p hp;generalize p.v=r at*;have C2:=kneg En r.num (Nat.le_trans hr.1 oM);rw[qC_mk (-r) (a:= -r.num) (b:=r.den) rfl rfl];refine aA Tryz.func174 rfl Tryz.ntmps174 rfl ?_;intro w0 h0;refine vS<|vB jj<|vA jj<|vJ<|vL jj<|vC C1 ⟨jj,trivial⟩<|vA jj<|vP jj<|vJ<|vF jj<|vL jj<|vC C2 ⟨jj,trivial⟩<|vF jj<|vL jj<|jS (aU (ps:=[(_,_),(_,_)]) ⟨jj,Part.c jj,jj,Part.c jj,trivial⟩ jj)<|vP jj<|jn<|ji ?_;exact rtC rfl jj jj
theorem rsub(p q:RQ)(hp:p.ok)(hq:q.ok):Fn PZ En 135 [qP p,qP q] (qC (p.v-q.v)):=by
 have C1:=rneg En q hq;have C2:=rsum En p (RQ.of (-q.v)) hp (RQ.of_ok (fZ6 (RQ.sz hq)));rw[RQ.of_v,←Rat.sub_eq_add_neg] at C2;refine aA Tryz.func135 rfl Tryz.ntmps135 rfl ?_;intro w0 h0;refine vS<|vB jj<|vB jj<|vA jj<|vJ<|vL jj<|vL jj<|vC C1 ⟨jj,trivial⟩<|jS (bW (ps:=[(_,_),(_,_)]) ⟨jj,Part.c jj,jj,Part.c jj,trivial⟩ jj jj jj)<|vC C2 ⟨jj,trivial⟩<|vP jj<|jn<|ji ?_;exact rtC rfl jj jj
theorem rquo(p q:RQ)(hp:p.ok)(hq:q.ok)(h0:q.v≠0):Fn PZ En 77 [qP p,qP q] (dK [qC (p.v/q.v),ex (.bool true)]):=by
 have hs:=RQ.sz hq;have C1:=eQ En q hq;generalize q.v=s at*;have hn:s.num≠0:=fun h=>h0 (Rat.num_eq_zero.1 h);have hsg:sg3 s.num≠0:=by unfold sg3;rw[if_neg hn];split<;>decide
 have C2:=lZu En s hs;have C3:=cZV En p ⟨decide ((s.den:Int)<0),aE (s.den:Int).natAbs,decide (s.num<0),aE s.num.natAbs⟩ hp ⟨aJ _,aJ _,hs.2,hs.1⟩;have e:(⟨decide ((s.den:Int)<0),aE (s.den:Int).natAbs,decide (s.num<0),aE s.num.natAbs⟩:RQ).v=s⁻¹:=by
  unfold RQ.v;simp only;rw[eP,eP,Rat.inv_def]
 rw[e,←Rat.div_def] at C3;refine aA Tryz.func77 rfl Tryz.ntmps77 rfl ?_;intro w0 h0;refine vS<|vB jj<|vB jj<|vA jj<|vZ jj<|vS<|vL jj<|vC C1 ⟨jj,trivial⟩<|vA jj<|vP jj<|jn<|js<|vS<|vL jj<|vC C2 ⟨jj,trivial⟩<|vEf jj<|jn<|jf jj<|jp<|vS<|vL jj<|vF jj<|vL jj<|vF jj<|vL jj<|jS (aU (ps:=[(_,_),(_,_)]) ⟨jj,Part.c jj,jj,Part.c jj,trivial⟩ jj)<|jS (bW (ps:=[(_,_),(_,_)]) ⟨jj,Part.c jj,jj,Part.c jj,trivial⟩ jj jj jj)<|vC C3 ⟨jj,trivial⟩<|vP jj<|vZ jj<|ji ?_;exact rtD rfl jj jj jj
theorem rsign(p:RQ)(hp:p.ok):Fn PZ En 13 [qP p] (i6 (sg3 (zv p.s p.l)*sg3 (zv p.t p.m))):=by
 have hll:=hp.ll;have hml:=hp.ml;have C1:=zB En p.s p.l hp.l oM;have C2:=zB En p.t p.m hp.m oM;have b1:=iZt (zv p.s p.l);have b2:=iZt (zv p.t p.m);have e:IntKind.i64.wrap (sg3 (zv p.s p.l)*sg3 (zv p.t p.m))=sg3 (zv p.s p.l)*sg3 (zv p.t p.m):=by
  have h1:sg3 (zv p.s p.l)= -1∨sg3 (zv p.s p.l)=0∨sg3 (zv p.s p.l)=1:=oM;have h2:sg3 (zv p.t p.m)= -1∨sg3 (zv p.t p.m)=0∨sg3 (zv p.t p.m)=1:=oM;rcases h1 with h1|h1|h1<;>rcases h2 with h2|h2|h2<;>rw[h1,h2]<;>decide
 refine aA Tryz.func13 rfl Tryz.ntmps13 rfl ?_;intro w0 h0;refine vS<|vB jj<|vZ jj<|vS<|vF jj<|vL jj<|vC C1 ⟨jj,trivial⟩<|vF jj<|vL jj<|vC C2 ⟨jj,trivial⟩<|vMu jj e<|vZ jj<|ji ?_;exact rtT rfl jj
end
end
end Go.Proofs.YtfmjdlogjmofbaaGreatDoor

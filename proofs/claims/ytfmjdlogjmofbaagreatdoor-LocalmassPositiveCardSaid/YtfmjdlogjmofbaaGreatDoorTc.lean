/- Plain arithmetic: lists of limbs of 32 bits, the least significant first. -/
import Derived.Test.YtfmjdlogjmofbaaGreatDoorA
import Derived.Laws.MakeOwn
import Derived.ArgAppend
import Derived.Laws.Cover3
import Derived.Laws.BytesString
import Derived.Laws.Strings
import Derived.Test.YtfmjdlogjmofbaaGreatDoorW
namespace Go.Proofs.YtfmjdlogjmofbaaGreatDoor.Limb
def B:Nat:=4294967296
theorem bM:B=4294967296:=rfl
theorem dD:0<B:=by decide
def val:List Nat→Nat
 |[]=>0
 |x::l=>x+B*val l
def Lm(l:List Nat):Prop:=∀x∈l,x<B
theorem Lm.nil:Lm []:=by simp[Lm]
theorem Lm.cons{x:Nat}{l:List Nat}(hx:x<B)(hl:Lm l):Lm (x::l):=by
 intro y hy;rcases List.mem_cons.1 hy with rfl|hy
 ·exact hx
 ·exact hl y hy
theorem Lm.head{x:Nat}{l:List Nat}(h:Lm (x::l)):x<B:=h x (by simp)
theorem Lm.tail{x:Nat}{l:List Nat}(h:Lm (x::l)):Lm l:=fun y hy=>h y (by simp[hy])
theorem Lm.append{a b:List Nat}(ha:Lm a)(hb:Lm b):Lm (a++b):=by
 intro y hy;rcases List.mem_append.1 hy with h|h
 ·exact ha y h
 ·exact hb y h
theorem Lm.sub{a b:List Nat}(hb:Lm b)(h:∀x∈a,x∈b):Lm a:=fun x hx=>hb x (h x hx)
theorem Lm.take{l:List Nat}(h:Lm l)(n:Nat):Lm (l.take n):=h.sub fun _ hx=>List.mem_of_mem_take hx
theorem Lm.drop{l:List Nat}(h:Lm l)(n:Nat):Lm (l.drop n):=h.sub fun _ hx=>List.mem_of_mem_drop hx
theorem Lm.get{l:List Nat}(h:Lm l){i x:Nat}(hx:l[i]? =some x):x<B:=h x (List.mem_of_getElem? hx)
theorem eY(a b:List Nat):val (a++b)=val a+B^a.length*val b:=by
 induction a with
 |nil=>simp[val]
 |cons x l ih=>simp only[List.cons_append,val,ih,List.length_cons,Nat.pow_succ,Nat.mul_add];rw[Nat.mul_comm (B^l.length) B,Nat.mul_assoc];omega
theorem fE{l:List Nat}(h:Lm l):val l<B^l.length:=by
 induction l with
 |nil=>simp[val]
 |cons x l ih=>
  have h1:=ih h.tail;have h2:=h.head;simp only[val,List.length_cons,Nat.pow_succ];have:B*(val l+1)≤B*B^l.length:=Nat.mul_le_mul_left _ h1;rw[Nat.mul_comm (B^l.length)];rw[Nat.mul_add] at this;omega
theorem gZP(n:Nat):val (List.replicate n 0)=0:=by
 induction n with
 |zero=>rfl
 |succ n ih=>rw[List.replicate_succ,val,ih];rfl
def cZt:Nat→Nat→List Nat
 |0,_=>[]
 |f+1,n=>if n=0 then[] else n%B::cZt f (n/B)
def aE(n:Nat):List Nat:=cZt n n
theorem bZc:∀(f g n:Nat),n≤f→n≤g→cZt f n=cZt g n
 |0,0,_,_,_=>rfl
 |0,g+1,n,h,_=>by unfold cZt;rw[if_pos oM]
 |f+1,0,n,_,h=>by unfold cZt;rw[if_pos oM]
 |f+1,g+1,n,h1,h2=>by
  unfold cZt
  by_cases h:n=0
  ·rw[if_pos h,if_pos h]
  ·rw[if_neg h,if_neg h]
   have:n/B<n:=Nat.div_lt_self oM aD;rw[bZc f g _ oM oM]
theorem fQ:aE 0=[]:=rfl
theorem dZ{n:Nat}(h:n≠0):aE n=n%B::aE (n/B):=by
 obtain⟨k,rfl⟩:∃k,n=k+1:=⟨n-1,oM⟩;have:(k+1)/B<k+1:=Nat.div_lt_self oM aD;show cZt (k+1) (k+1)=_
 rw[cZt,if_neg oM];unfold aE;rw[bZc k _ _ oM (Nat.le_refl _)]
theorem gZz(n:Nat):val (aE n)=n∧Lm (aE n):=by
 induction n using Nat.strongRecOn with
 |_ n ih=>
  by_cases h:n=0
  ·subst h;exact⟨rfl,Lm.nil⟩
  ·have hlt:n/B<n:=Nat.div_lt_self oM aD
   obtain⟨h1,h2⟩:=ih _ hlt;rw[dZ h];exact⟨by simp only[val];rw[h1];exact Nat.mod_add_div n B,Lm.cons (Nat.mod_lt _ dD) h2⟩
theorem aN(n:Nat):val (aE n)=n:=(gZz n).1
theorem aJ(n:Nat):Lm (aE n):=(gZz n).2
theorem bZb{x n:Nat}(hx:x<B)(h:x+B*n≠0):aE (x+B*n)=x::aE n:=by
 rw[dZ h];have e1:(x+B*n)%B=x:=by rw[Nat.add_mul_mod_self_left,Nat.mod_eq_of_lt hx]
 have e2:(x+B*n)/B=n:=by rw[Nat.add_mul_div_left _ _ dD,Nat.div_eq_of_lt hx,Nat.zero_add]
 rw[e1,e2]
theorem cN{n k:Nat}(h:n<B^k):(aE n).length≤k:=by
 induction k generalizing n with
 |zero=>simp at h;subst h;simp[fQ]
 |succ k ih=>
  by_cases h0:n=0
  ·subst h0;simp[fQ]
  ·rw[dZ h0,List.length_cons]
   have:n/B<B^k:=Nat.div_lt_of_lt_mul (by rw[Nat.pow_succ] at h;rw[Nat.mul_comm];exact h)
   have:=ih this;omega
theorem eJ(n:Nat):n<B^(aE n).length:=by
 have:=fE (aJ n);rwa[aN] at this
theorem eC{a b:Nat}(h:a≤b):(aE a).length≤(aE b).length:=cN (Nat.lt_of_le_of_lt h (eJ b))
theorem jZY(a b:Nat):(aE (a*b)).length≤(aE a).length+(aE b).length:=
 cN (by rw[Nat.pow_add];exact Nat.mul_lt_mul'' (eJ a) (eJ b))
theorem kZa(a b:Nat):(aE (a+b)).length≤max (aE a).length (aE b).length+1:=by
 refine cN ?_;have h1:=eJ a;have h2:=eJ b;have p1:=Nat.pow_le_pow_right dD (Nat.le_max_left (aE a).length (aE b).length);have p2:=Nat.pow_le_pow_right dD (Nat.le_max_right (aE a).length (aE b).length);rw[Nat.pow_succ];have:B^max (aE a).length (aE b).length*2≤B^max (aE a).length (aE b).length*B:=Nat.mul_le_mul_left _ aD;omega
theorem qF{n x:Nat}(h:(aE n).getLast? =some x):x≠0:=by
 induction n using Nat.strongRecOn with
 |_ n ih=>
  by_cases h0:n=0
  ·subst h0;simp[fQ] at h
  ·rw[dZ h0] at h
   by_cases h1:n/B=0
   ·rw[h1,fQ,List.getLast?_singleton] at h
    have:=Option.some.inj h;have:=Nat.mod_add_div n B;rw[h1] at this;omega
   ·have hlt:n/B<n:=Nat.div_lt_self oM aD
    refine ih _ hlt ?_;rw[dZ h1] at h ⊢;rwa[List.getLast?_cons_cons] at h
theorem jZX{l:List Nat}(hl:Lm l)(h:∀x,l.getLast? =some x→x≠0):aE (val l)=l:=by
 induction l with
 |nil=>rfl
 |cons x l ih=>
  cases l with
  |nil=>
   have hx:x≠0:=h x rfl;have:=bZb (n:=0) hl.head (by simpa using hx)
   rw[fQ] at this;simpa [val] using this
  |cons y t=>
   have h':∀z,(y::t).getLast? =some z→z≠0:=fun z hz=>h z (by simpa using hz)
   have i:=ih hl.tail h';have hne:val (y::t)≠0:=by
    intro h0;rw[h0,fQ] at i;cases i
   show aE (x+B*val (y::t))=_
   rw[bZb hl.head (by have:=Nat.mul_pos dD (Nat.pos_of_ne_zero hne);omega),i]
theorem hZQ{l:List Nat}{k:Nat}(h:∀i x,k≤i→l[i]? =some x→x=0):val (l.take k)=val l:=by
 have hz:∀{l:List Nat},(∀x∈l,x=0)→val l=0:=by
  intro l;induction l with
  |nil=>intro _;rfl
  |cons x l ih=>intro h;rw[val,h x (by simp),ih fun y hy=>h y (by simp[hy])];rfl
 conv=>rhs;rw[←List.take_append_drop k l,eY]
 rw[hz (l:=l.drop k)]
 ·simp
 ·intro x hx
  obtain⟨i,hi⟩:=List.getElem?_of_mem hx;rw[List.getElem?_drop] at hi;exact h (k+i) x oM hi
theorem pN{l:List Nat}{k:Nat}(hl:Lm l)(hk:k≤l.length)(h0:∀i x,k≤i→l[i]? =some x→x=0)(h1:∀x,0<k→l[k-1]? =some x→x≠0):l.take k=aE (val l):=by
 rw[←hZQ h0];refine(jZX (hl.take k) fun x hx=>?_).symm;rcases Nat.eq_zero_or_pos k with hz|hz
 ·subst hz;simp at hx
 ·refine h1 x hz ?_
  rw[List.getLast?_eq_getElem?,List.length_take,Nat.min_eq_left hk,List.getElem?_take_of_lt oM] at hx;exact hx
theorem mR{a b:List Nat}(ha:Lm a)(h:a.length<b.length)(hb:∀x,b.getLast? =some x→x≠0):val a<val b:=by
 have h1:=fE ha;obtain⟨i,z,rfl⟩:∃i z,b=i++[z]:=by
  have hne:b≠[]:=by rintro rfl;simp at h
  exact⟨b.dropLast,b.getLast hne,(List.dropLast_concat_getLast hne).symm⟩
 have hz:z≠0:=hb z (by simp)
 rw[eY];simp only[val,List.length_append,List.length_singleton] at*;have p:=Nat.pow_le_pow_right dD (show a.length≤i.length by omega)
 have:B^i.length*1≤B^i.length*z:=Nat.mul_le_mul_left _ oM;have e:B^i.length*(z+B*0)=B^i.length*z:=by rw[Nat.mul_zero,Nat.add_zero]
 omega
theorem kP{a b:List Nat}(hl:a.length=b.length){k x y:Nat}(ha:Lm a)(hx:a[k]? =some x)(hy:b[k]? =some y)(hlt:x<y)(ht:a.drop (k+1)=b.drop (k+1)):val a<val b:=by
 have hk:k<a.length:=(List.getElem?_eq_some_iff.1 hx).1;have hk':k<b.length:=(List.getElem?_eq_some_iff.1 hy).1;have ea:a=a.take k++(x::a.drop (k+1)):=by
  conv=>lhs;rw[←List.take_append_drop k a,List.drop_eq_getElem_cons hk]
  rw[(List.getElem?_eq_some_iff.1 hx).2]
 have eb:b=b.take k++(y::b.drop (k+1)):=by
  conv=>lhs;rw[←List.take_append_drop k b,List.drop_eq_getElem_cons hk']
  rw[(List.getElem?_eq_some_iff.1 hy).2]
 rw[ea,eb,eY,eY,ht];simp only[val,List.length_take];rw[Nat.min_eq_left oM,Nat.min_eq_left oM];have h1:=fE (ha.take k);rw[List.length_take,Nat.min_eq_left oM] at h1;generalize val (b.drop (k+1))=D;have:B^k*(x+B*D)+B^k*1≤B^k*(y+B*D):=by
  rw[←Nat.mul_add];exact Nat.mul_le_mul_left _ oM
 omega
end Go.Proofs.YtfmjdlogjmofbaaGreatDoor.Limb
namespace Go.Proofs.YtfmjdlogjmofbaaGreatDoor.Limb
theorem bH(l:List Nat)(i:Nat):val (l.take (i+1))=val (l.take i)+B^i*(l[i]?.getD 0):=by
 by_cases h:i<l.length
 ·rw[List.take_succ_eq_append_getElem h,eY,List.length_take,Nat.min_eq_left oM,List.getElem?_eq_getElem h]
  simp[val]
 ·rw[List.take_of_length_le oM,List.take_of_length_le oM,List.getElem?_eq_none oM]
  simp
theorem kV{l:List Nat}(h:Lm l)(i:Nat):l[i]?.getD 0<B:=by
 cases hx:l[i]? with
 |none=>exact dD
 |some x=>exact h.get hx
theorem gE{l:List Nat}{x:Nat}(h:Lm l)(hx:x<B):Lm (l++[x]):=h.append (Lm.cons hx Lm.nil)
theorem eX(l:List Nat)(x:Nat):val (l++[x])=val l+B^l.length*x:=by rw[eY];simp[val]
def SumInv(l1 l2:List Nat)(i:Nat)(O:List Nat)(c:Nat):Prop:=O.length=i∧Lm O∧c≤1∧val O+B^i*c=val (l1.take i)+val (l2.take i)
theorem SumInv.start(l1 l2:List Nat):SumInv l1 l2 0 [] 0:=⟨rfl,Lm.nil,oM,by simp[val]⟩
theorem SumInv.step{l1 l2:List Nat}{i:Nat}{O:List Nat}{c:Nat}(h1:Lm l1)(h2:Lm l2)(h:SumInv l1 l2 i O c):
  SumInv l1 l2 (i+1) (O++[(c+l1[i]?.getD 0+l2[i]?.getD 0)%B]) ((c+l1[i]?.getD 0+l2[i]?.getD 0)/B):=by
 obtain⟨a1,a2,a3,a4⟩:=h;have b1:=kV h1 i;have b2:=kV h2 i;refine⟨by simp[a1],gE a2 (Nat.mod_lt _ dD),?_,?_⟩
 ·rw[bM] at*;omega
 ·rw[eX,bH,bH,a1]
  generalize l1[i]?.getD 0=x at*;generalize l2[i]?.getD 0=y at*;have e:=Nat.mod_add_div (c+x+y) B;have:B^i*((c+x+y)%B)+B^(i+1)*((c+x+y)/B)=B^i*(c+x+y):=by
   rw[Nat.pow_succ,Nat.mul_assoc,←Nat.mul_add,e]
  rw[Nat.add_assoc,this,Nat.mul_add,Nat.mul_add];omega
theorem SumInv.done{l1 l2:List Nat}{i:Nat}{O:List Nat}{c:Nat}(h:SumInv l1 l2 i O c)(h1:l1.length≤i)(h2:l2.length≤i):Lm (O++[c])∧val (O++[c])=val l1+val l2:=by
 obtain⟨a1,a2,a3,a4⟩:=h;refine⟨gE a2 (by rw[bM];omega),?_⟩
 rw[eX,a1,a4,List.take_of_length_le h1,List.take_of_length_le h2]
def DifInv(l1 l2:List Nat)(i:Nat)(O:List Nat)(b:Nat):Prop:=O.length=i∧Lm O∧b≤1∧val O+val (l2.take i)=val (l1.take i)+B^i*b
theorem DifInv.start(l1 l2:List Nat):DifInv l1 l2 0 [] 0:=⟨rfl,Lm.nil,oM,by simp[val]⟩
def iQ(x y:Nat):Nat:=if x<y then x+B-y else x-y
def lE(x y:Nat):Nat:=if x<y then 1 else 0
theorem DifInv.step{l1 l2:List Nat}{i:Nat}{O:List Nat}{b:Nat}(h1:Lm l1)(h2:Lm l2)(h:DifInv l1 l2 i O b):
  DifInv l1 l2 (i+1) (O++[iQ (l1[i]?.getD 0) (b+l2[i]?.getD 0)]) (lE (l1[i]?.getD 0) (b+l2[i]?.getD 0)):=by
 obtain⟨a1,a2,a3,a4⟩:=h;have b1:=kV h1 i;have b2:=kV h2 i;refine⟨by simp[a1],gE a2 (by unfold iQ;split<;>omega),by unfold lE;split<;>omega,?_⟩
 rw[eX,bH,bH,a1];generalize l1[i]?.getD 0=x at*;generalize l2[i]?.getD 0=y at*;have:B^i*iQ x (b+y)+B^i*(b+y)=B^i*x+B^(i+1)*lE x (b+y):=by
  rw[Nat.pow_succ,Nat.mul_assoc,←Nat.mul_add,←Nat.mul_add];congr 1
  unfold iQ lE;split<;>omega
 rw[Nat.mul_add] at this;omega
theorem DifInv.done{l1 l2:List Nat}{i:Nat}{O:List Nat}{b:Nat}(h:DifInv l1 l2 i O b)(h1:l1.length≤i)(h2:l2.length≤i)(hle:val l2≤val l1):Lm O∧val O=val l1-val l2:=by
 obtain⟨a1,a2,a3,a4⟩:=h;refine⟨a2,?_⟩;rw[List.take_of_length_le h1,List.take_of_length_le h2] at a4;have:=fE a2;rw[a1] at this;rcases Nat.eq_zero_or_pos b with h0|h0
 ·subst h0;omega
 ·have hb:b=1:=oM
  subst hb;omega
end Go.Proofs.YtfmjdlogjmofbaaGreatDoor.Limb
namespace Go.Proofs.YtfmjdlogjmofbaaGreatDoor
section
open Limb
def sg3(z:Int):Int:=if z=0 then 0 else if z<0 then-1 else 1
theorem eZB{s:Bool}{z:Int}{l:List Nat}(hz:z=if s then-(val l:Int) else(val l:Int)):
  (val l=0∧sg3 z=0)∨(0<val l∧s=true∧sg3 z= -1)∨(0<val l∧s=false∧sg3 z=1):=by
 unfold sg3;rcases Nat.eq_zero_or_pos (val l) with h|h
 ·left;refine⟨h,?_⟩;rw[if_pos];rw[hz,h];cases s<;>simp
 ·right
  cases s
  ·right;simp at hz;exact⟨h,rfl,by rw[if_neg oM,if_neg oM]⟩
  ·left;simp at hz;exact⟨h,rfl,by rw[if_neg oM,if_pos oM]⟩
def gA(a b:List Nat):Int:=if a.length<b.length then-1 else if b.length<a.length then 1 else if val a<val b then-1 else if val b<val a then 1 else 0
theorem iY(a b:Nat):gA (aE a) (aE b)=if a<b then-1 else if b<a then 1 else 0:=by
 unfold gA;rw[aN,aN];have h1:=fun h:(aE a).length<(aE b).length=>mR (aJ a) h (fun x hx=>qF hx);have h2:=fun h:(aE b).length<(aE a).length=>mR (aJ b) h (fun x hx=>qF hx);rw[aN,aN] at h1 h2
 by_cases c1:(aE a).length<(aE b).length
 ·rw[if_pos c1,if_pos (h1 c1)]
 ·rw[if_neg c1]
  by_cases c2:(aE b).length<(aE a).length
  ·have:=h2 c2
   rw[if_pos c2,if_neg oM,if_pos this]
  ·rw[if_neg c2]
theorem bZi(a:List Nat):gA a a=0:=by unfold gA;simp
end
end Go.Proofs.YtfmjdlogjmofbaaGreatDoor
namespace Go.Proofs.YtfmjdlogjmofbaaGreatDoor.Limb
def MulInv(R b:List Nat)(x j:Nat)(N:List Nat)(c:Nat):Prop:=N.length=j∧Lm N∧c<B∧val N+B^j*c=val (R.take j)+x*val (b.take j)
theorem MulInv.start(R b:List Nat)(x:Nat):MulInv R b x 0 [] 0:=⟨rfl,Lm.nil,dD,by simp[val]⟩
theorem mO{c x y r:Nat}(hc:c<B)(hx:x<B)(hy:y<B)(hr:r<B):c+(x*y+r)<B*B∧x*y≤18446744065119617025:=by
 have:x*y≤(B-1)*(B-1):=Nat.mul_le_mul oM oM;rw[bM] at*;omega
theorem MulInv.step{R b:List Nat}{x j:Nat}{N:List Nat}{c y r:Nat}(hx:x<B)(hR:Lm R)(hb:Lm b)(hy:b[j]? =some y)(hr:R[j]? =some r)(h:MulInv R b x j N c):
  MulInv R b x (j+1) (N++[(c+(x*y+r))%B]) ((c+(x*y+r))/B):=by
 obtain⟨a1,a2,a3,a4⟩:=h;have hb1:=(mO a3 hx (hb.get hy) (hR.get hr)).1;refine⟨by simp[a1],gE a2 (Nat.mod_lt _ dD),Nat.div_lt_of_lt_mul hb1,?_⟩
 rw[eX,bH,bH,a1,hy,hr,Option.getD_some,Option.getD_some];generalize ht:c+(x*y+r)=t;have e:=Nat.mod_add_div t B;have:B^j*(t%B)+B^(j+1)*(t/B)=B^j*t:=by rw[Nat.pow_succ,Nat.mul_assoc,←Nat.mul_add,e]
 rw[Nat.add_assoc,this,←ht,Nat.mul_add,Nat.mul_add,Nat.mul_add];have e2:x*(B^j*y)=B^j*(x*y):=by rw[←Nat.mul_assoc,Nat.mul_comm x,Nat.mul_assoc]
 rw[e2];omega
def ProdInv(a b:List Nat)(i:Nat)(Q:List Nat):Prop:=Q.length=i+b.length∧Lm Q∧val Q=val (a.take i)*val b
theorem ProdInv.start(a b:List Nat):ProdInv a b 0 (List.replicate b.length 0):=⟨by simp,fun x hx=>by rw[(List.mem_replicate.1 hx).2];exact dD,by rw[gZP];simp[val]⟩
theorem ProdInv.zero{a b:List Nat}{i:Nat}{Q:List Nat}(h:ProdInv a b i Q)(hx:a[i]? =some 0):ProdInv a b (i+1) (Q++[0]):=by
 obtain⟨h1,h2,h3⟩:=h;refine⟨by simp[h1];omega,gE h2 dD,?_⟩
 rw[eX,bH,hx,Option.getD_some,Nat.mul_zero,Nat.mul_zero,Nat.add_zero,Nat.add_zero,h3]
theorem ProdInv.step{a b:List Nat}{i x:Nat}{Q N:List Nat}{c:Nat}(h:ProdInv a b i Q)(hx:a[i]? =some x)(hm:MulInv (Q.drop i) b x b.length N c):ProdInv a b (i+1) (Q.take i++N++[c]):=by
 obtain⟨h1,h2,h3⟩:=h;obtain⟨a1,a2,a3,a4⟩:=hm;have hl:(Q.take i).length=i:=by simp;omega
 refine⟨by simp[a1];omega,gE ((h2.take i).append a2) a3,?_⟩
 rw[List.take_length] at a4;have hd:(Q.drop i).take b.length=Q.drop i:=List.take_of_length_le (by simp;omega)
 rw[hd] at a4;have hQ:val Q=val (Q.take i)+B^i*val (Q.drop i):=by
  conv=>lhs;rw[←List.take_append_drop i Q,eY,hl]
 rw[eY,eY,List.length_append,hl,a1,bH,hx,Option.getD_some,Nat.add_mul,←h3,hQ];simp only[val,Nat.mul_zero,Nat.add_zero];rw[Nat.pow_add,Nat.mul_assoc (B^i) x,Nat.add_assoc,Nat.mul_assoc (B^i),←Nat.mul_add,a4,Nat.mul_add];omega
theorem ProdInv.done{a b:List Nat}{Q:List Nat}(h:ProdInv a b a.length Q):Lm Q∧val Q=val a*val b:=⟨h.2.1,by have:=h.2.2;rwa[List.take_length] at this⟩
end Go.Proofs.YtfmjdlogjmofbaaGreatDoor.Limb
namespace Go.Proofs.YtfmjdlogjmofbaaGreatDoor.Limb
def pd:Nat→Nat→List Nat
 |_,0=>[]
 |n,k+1=>n%B::pd (n/B) k
theorem dO:∀(n k:Nat),(pd n k).length=k
 |_,0=>rfl
 |n,k+1=>by simp[pd,dO (n/B) k]
theorem oZ:∀(n k:Nat),Lm (pd n k)
 |_,0=>Lm.nil
 |n,k+1=>Lm.cons (Nat.mod_lt _ dD) (oZ (n/B) k)
theorem mN:∀(n k:Nat),n<B^k→val (pd n k)=n
 |n,0,h=>by simp at h;subst h;rfl
 |n,k+1,h=>by
  simp only[pd,val];rw[mN (n/B) k (Nat.div_lt_of_lt_mul (by rw[Nat.pow_succ] at h;rw[Nat.mul_comm];exact h))]
  exact Nat.mod_add_div n B
theorem sB:∀{l:List Nat} {n k:Nat},Lm l→val l=n→l.length=k→l=pd n k
 |[],n,k,_,_,hk=>by simp at hk;subst hk;rfl
 |x::l,n,k,hl,hv,hk=>by
  subst hk hv;have hx:=hl.head;show x::l=(val (x::l))%B::pd (val (x::l)/B) l.length
  have e1:val (x::l)%B=x:=by show(x+B*val l)%B=x;rw[Nat.add_mul_mod_self_left,Nat.mod_eq_of_lt hx]
  have e2:val (x::l)/B=val l:=by show(x+B*val l)/B=val l;rw[Nat.add_mul_div_left _ _ dD,Nat.div_eq_of_lt hx,Nat.zero_add]
  rw[e1,e2,←sB hl.tail rfl rfl]
theorem mM{l:List Nat}{k x:Nat}(hx:l[k]? =some x):val (l.drop k)=x+B*val (l.drop (k+1)):=by
 have hk:=(List.getElem?_eq_some_iff.1 hx).1;rw[List.drop_eq_getElem_cons hk,(List.getElem?_eq_some_iff.1 hx).2];rfl
def DvInv(m:List Nat)(d k:Nat)(Q:List Nat)(r:Nat):Prop:=Q.length=m.length-k∧Lm Q∧r<d∧val (m.drop k)=val Q*d+r
theorem DvInv.start(m:List Nat){d:Nat}(hd:0<d):DvInv m d m.length [] 0:=⟨by simp,Lm.nil,hd,by rw[List.drop_length];simp[val]⟩
theorem DvInv.step{m:List Nat}{d k x:Nat}{Q:List Nat}{r:Nat}(hx:m[k]? =some x)(hm:Lm m)(h:DvInv m d (k+1) Q r):
  DvInv m d k ((r*B+x)/d::Q) ((r*B+x)%d)∧(r*B+x)/d<B:=by
 obtain⟨h1,h2,h3,h4⟩:=h;have hk:=(List.getElem?_eq_some_iff.1 hx).1;have hxB:=hm.get hx;have hlt:r*B+x<d*B:=by
  have:(r+1)*B≤d*B:=Nat.mul_le_mul_right _ h3;rw[Nat.add_mul] at this;omega
 have hq:(r*B+x)/d<B:=Nat.div_lt_of_lt_mul hlt;refine⟨⟨by simp[h1];omega,Lm.cons hq h2,Nat.mod_lt _ oM,?_⟩,hq⟩
 rw[mM hx,h4];simp only[val];have e:=Nat.div_add_mod (r*B+x) d;generalize(r*B+x)/d=q at*;generalize(r*B+x)%d=s at*;rw[Nat.mul_add,Nat.add_mul,Nat.mul_comm q d,←Nat.mul_assoc B,Nat.mul_comm B r];omega
theorem DvInv.done{m:List Nat}{d:Nat}{Q:List Nat}{r:Nat}(h:DvInv m d 0 Q r):Q=pd (val m/d) m.length∧r=val m%d:=by
 obtain⟨h1,h2,h3,h4⟩:=h;rw[List.drop_zero] at h4;have hv:val m/d=val Q:=by rw[h4,Nat.mul_comm,Nat.mul_add_div oM,Nat.div_eq_of_lt h3,Nat.add_zero]
 have hr:val m%d=r:=by rw[h4,Nat.mul_comm,Nat.mul_add_mod,Nat.mod_eq_of_lt h3]
 exact⟨by rw[hv];exact sB h2 rfl (by rw[h1];omega),hr.symm⟩
def ShlInv(m:List Nat)(s i:Nat)(N:List Nat)(c:Nat):Prop:=N.length=i∧Lm N∧c<2^s∧val N+B^i*c=val (m.take i)*2^s
theorem ShlInv.start(m:List Nat)(s:Nat):ShlInv m s 0 [] 0:=⟨rfl,Lm.nil,Nat.two_pow_pos s,by simp[val]⟩
theorem ShlInv.step{m:List Nat}{s i x:Nat}{N:List Nat}{c:Nat}(hx:m[i]? =some x)(hm:Lm m)(h:ShlInv m s i N c):
  ShlInv m s (i+1) (N++[(c+2^s*x)%B]) ((c+2^s*x)/B)∧c+2^s*x<2^s*B:=by
 obtain⟨a1,a2,a3,a4⟩:=h;have hxB:=hm.get hx;have hlt:c+2^s*x<2^s*B:=by
  have:2^s*(x+1)≤2^s*B:=Nat.mul_le_mul_left _ hxB;rw[Nat.mul_add] at this;omega
 refine⟨⟨by simp[a1],gE a2 (Nat.mod_lt _ dD),Nat.div_lt_of_lt_mul (by rw[Nat.mul_comm B];exact hlt),?_⟩,hlt⟩
 rw[eX,bH,a1,hx,Option.getD_some];generalize ht:c+2^s*x=t;have e:=Nat.mod_add_div t B;have:B^i*(t%B)+B^(i+1)*(t/B)=B^i*t:=by rw[Nat.pow_succ,Nat.mul_assoc,←Nat.mul_add,e]
 rw[Nat.add_assoc,this,←ht,Nat.mul_add,Nat.add_mul,←a4,Nat.mul_assoc (B^i) x,Nat.mul_comm x];omega
theorem ShlInv.done{m:List Nat}{s:Nat}{N:List Nat}{c:Nat}(h:ShlInv m s m.length N c)(hs:s<32):N++[c]=pd (val m*2^s) (m.length+1)∧c<B:=by
 obtain⟨a1,a2,a3,a4⟩:=h;have hB:2^s≤B:=by rw[show B=2^32 from rfl];exact Nat.pow_le_pow_right oM oM
 rw[List.take_length] at a4;exact⟨sB (gE a2 oM) (by rw[eX,a1,a4]) (by simp[a1]),oM⟩
def ShrInv(m:List Nat)(s i:Nat)(N:List Nat):Prop:=N.length=i∧Lm N∧val N+B^i*(val (m.drop i)/2^s)=val m/2^s
theorem ShrInv.start(m:List Nat)(s:Nat):ShrInv m s 0 []:=⟨rfl,Lm.nil,by simp[val]⟩
theorem ShrInv.step{m:List Nat}{s i x:Nat}{N:List Nat}(hs:s<32)(hx:m[i]? =some x)(hm:Lm m)(h:ShrInv m s i N):ShrInv m s (i+1) (N++[(x+B*m[i+1]?.getD 0)/2^s%B]):=by
 obtain⟨a1,a2,a4⟩:=h;have hxB:=hm.get hx;have hv:=mM hx;refine⟨by simp[a1],gE a2 (Nat.mod_lt _ dD),?_⟩
 rw[eX,a1,←a4];have hB:B=2^s*2^(32-s):=by rw[←Nat.pow_add,show s+(32-s)=32 by omega];rfl
 have hdiv:val (m.drop i)/2^s/B=val (m.drop (i+1))/2^s:=by
  rw[Nat.div_div_eq_div_mul,Nat.mul_comm,←Nat.div_div_eq_div_mul,hv,Nat.add_mul_div_left _ _ dD,Nat.div_eq_of_lt hxB,Nat.zero_add]
 have hmod:(x+B*m[i+1]?.getD 0)/2^s%B=val (m.drop i)/2^s%B:=by
  obtain⟨R,hR⟩:∃R,val (m.drop (i+1))=m[i+1]?.getD 0+B*R:=by
   cases hy:m[i+1]? with
   |none=>exact⟨0,by rw[List.drop_eq_nil_of_le (List.getElem?_eq_none_iff.1 hy)];rfl⟩
   |some y=>exact⟨_,mM hy⟩
  rw[hv,hR];have e:x+B*(m[i+1]?.getD 0+B*R)=(x+B*m[i+1]?.getD 0)+2^s*(B*(2^(32-s)*R)):=by
   rw[Nat.mul_add,←Nat.add_assoc];congr 1
   conv=>lhs;rw[←Nat.mul_assoc];arg 1;arg 1;rw[hB]
   rw[Nat.mul_assoc (2^s),Nat.mul_assoc (2^s),Nat.mul_comm (2^(32-s)) B,Nat.mul_assoc]
  rw[e,Nat.add_mul_div_left _ _ (Nat.two_pow_pos s),Nat.add_mul_mod_self_left]
 rw[hmod,←hdiv,Nat.pow_succ,Nat.mul_assoc,Nat.add_assoc,←Nat.mul_add,Nat.mod_add_div]
theorem ShrInv.done{m:List Nat}{s:Nat}{N:List Nat}(h:ShrInv m s m.length N):N=pd (val m/2^s) m.length:=by
 obtain⟨a1,a2,a4⟩:=h;rw[List.drop_length] at a4;exact sB a2 (by simpa [val] using a4) a1
end Go.Proofs.YtfmjdlogjmofbaaGreatDoor.Limb
namespace Go.Proofs.YtfmjdlogjmofbaaGreatDoor.Limb
section
variable{E V U Lv Lu v1 v2 u0 u1 u2:Nat}
structure Kn(E V U Lv Lu v1 v2 u0 u1 u2:Nat):Prop where
 hV:V=Lv+E*(v2+B*v1)
 hU:U=Lu+E*(u2+B*(u0*B+u1))
 lv:Lv<E
 lu:Lu<E
 hv1:v1<B
 hv2:v2<B
 hu1:u1<B
 hu2:u2<B
 norm:B≤2*v1
 hlt:U<V*B
theorem Kn.Vpos(k:Kn E V U Lv Lu v1 v2 u0 u1 u2):0<V:=by
 rcases Nat.eq_zero_or_pos V with h|h
 ·have:=k.hlt;rw[h] at this;simp at this
 ·exact h
theorem Kn.qlt(k:Kn E V U Lv Lu v1 v2 u0 u1 u2):U/V<B:=Nat.div_lt_of_lt_mul k.hlt
theorem Kn.Epos(k:Kn E V U Lv Lu v1 v2 u0 u1 u2):0<E:=Nat.lt_of_le_of_lt (Nat.zero_le _) k.lv
theorem Kn.low(k:Kn E V U Lv Lu v1 v2 u0 u1 u2):U/V*(v2+B*v1)≤u2+B*(u0*B+u1):=by
 have h1:U/V*V≤U:=Nat.div_mul_le_self U V;generalize U/V=q at*;have h2:E*(q*(v2+B*v1))≤q*V:=by
  rw[k.hV,Nat.mul_add q Lv];have:E*(q*(v2+B*v1))=q*(E*(v2+B*v1)):=by rw[←Nat.mul_assoc,Nat.mul_comm E q,Nat.mul_assoc]
  omega
 have h3:U<E*(u2+B*(u0*B+u1)+1):=by rw[k.hU,Nat.mul_add E _ 1,Nat.mul_one];have:=k.lu;omega
 have h4:E*(q*(v2+B*v1))<E*(u2+B*(u0*B+u1)+1):=oM;have:=Nat.lt_of_mul_lt_mul_left h4;omega
theorem Kn.top(k:Kn E V U Lv Lu v1 v2 u0 u1 u2):u0≤v1:=by
 have h1:=k.hlt;have h2:E*(B*(B*u0))≤U:=by
  rw[k.hU];have e:B*(u0*B+u1)=B*(B*u0)+B*u1:=by rw[Nat.mul_add,Nat.mul_comm u0 B]
  rw[e,Nat.mul_add,Nat.mul_add];omega
 have h3:V*B<E*(B*(B*(v1+1))):=by
  have h4:V<E*(B*(v1+1)):=by
   rw[k.hV];have h5:=k.hv2;have h6:=k.lv;have h7:E*(v2+1)≤E*B:=Nat.mul_le_mul_left _ h5;have e:E*(B*(v1+1))=E*(B*v1)+E*B:=by rw[Nat.mul_add B,Nat.mul_add E,Nat.mul_one]
   rw[e,Nat.mul_add E v2];rw[Nat.mul_add E v2 1,Nat.mul_one] at h7;omega
  have h8:=Nat.mul_lt_mul_of_pos_right h4 dD;have e:E*(B*(v1+1))*B=E*(B*(B*(v1+1))):=by rw[Nat.mul_assoc,Nat.mul_comm (B*(v1+1)) B]
  rw[e] at h8;exact h8
 have h9:E*(B*(B*u0))<E*(B*(B*(v1+1))):=oM;have:=Nat.lt_of_mul_lt_mul_left (Nat.lt_of_mul_lt_mul_left (Nat.lt_of_mul_lt_mul_left h9));omega
theorem Kn.start(k:Kn E V U Lv Lu v1 v2 u0 u1 u2):U/V≤(u0*B+u1)/v1∧(u0*B+u1)/v1≤B+1:=by
 have hB:=bM;have hv:0<v1:=by have:=k.norm;omega
 constructor
 ·rw[Nat.le_div_iff_mul_le hv]
  have h1:=k.low;generalize U/V=q at*;rw[Nat.mul_add] at h1;have h2:B*(q*v1)≤u2+B*(u0*B+u1):=by
   have:q*(B*v1)=B*(q*v1):=by rw[←Nat.mul_assoc,Nat.mul_comm q B,Nat.mul_assoc]
   omega
  have h3:=k.hu2;have h4:B*(q*v1)<B*(u0*B+u1+1):=by rw[Nat.mul_add B _ 1];omega
  have:=Nat.lt_of_mul_lt_mul_left h4;omega
 ·have h0:=k.top
  have h1:u0*B≤v1*B:=Nat.mul_le_mul_right _ h0;have h2:=k.hu1;have h3:=k.norm;have:(u0*B+u1)/v1<B+2:=by
   refine Nat.div_lt_of_lt_mul ?_;rw[Nat.mul_add];omega
  omega
theorem Kn.down(k:Kn E V U Lv Lu v1 v2 u0 u1 u2){g r:Nat}(hg:g*v1+r=u0*B+u1)(h:B≤g∨r*B+u2<g*v2):U/V+1≤g:=by
 rcases h with h|h
 ·have:=k.qlt;omega
 ·have h1:=k.low
  have h2:U/V*(v2+B*v1)<g*(v2+B*v1):=by
   have e:g*(v2+B*v1)=g*v2+B*(g*v1):=by rw[Nat.mul_add,←Nat.mul_assoc,Nat.mul_comm g B,Nat.mul_assoc]
   rw[←hg,Nat.mul_add B (g*v1) r,Nat.mul_comm B r] at h1;omega
  exact Nat.lt_of_mul_lt_mul_right h2
theorem Kn.up(k:Kn E V U Lv Lu v1 v2 u0 u1 u2){g r:Nat}(hg:g*v1+r=u0*B+u1)(h1:g<B)(h2:g*v2≤r*B+u2):g≤U/V+1:=by
 have hB:=bM;have hE:=k.Epos;have h3:g*(v2+B*v1)≤u2+B*(u0*B+u1):=by
  have e:g*(v2+B*v1)=g*v2+B*(g*v1):=by rw[Nat.mul_add,←Nat.mul_assoc,Nat.mul_comm g B,Nat.mul_assoc]
  rw[←hg,Nat.mul_add B (g*v1) r,Nat.mul_comm B r];omega
 have h4:g*Lv<B*E:=Nat.mul_lt_mul'' h1 k.lv;have h5:B*E≤V:=by
  rw[k.hV,Nat.mul_add E v2];have h6:1≤v1:=by have:=k.norm;omega
  have:E*(B*1)≤E*(B*v1):=Nat.mul_le_mul_left _ (Nat.mul_le_mul_left _ h6);rw[Nat.mul_one,Nat.mul_comm E B] at this;omega
 have h7:g*V<U+V:=by
  rw[k.hV,Nat.mul_add g Lv];have e:g*(E*(v2+B*v1))=E*(g*(v2+B*v1)):=by rw[←Nat.mul_assoc,Nat.mul_comm g E,Nat.mul_assoc]
  have h8:E*(g*(v2+B*v1))≤E*(u2+B*(u0*B+u1)):=Nat.mul_le_mul_left _ h3;have h9:=k.hU;have h10:=k.hV;omega
 have h8:g<(U+V)/V+1:=by
  rcases Nat.lt_or_ge g ((U+V)/V+1) with h|h
  ·exact h
  ·have:=Nat.lt_mul_of_div_lt (show(U+V)/V<g by omega) k.Vpos
   omega
 rw[Nat.add_div_right _ k.Vpos] at h8;omega
end
def MsInv(u v:List Nat)(g i:Nat)(N:List Nat)(c b:Nat):Prop:=N.length=i∧Lm N∧c<B∧b≤1∧val N+g*val (v.take i)=val (u.take i)+B^i*(c+b)
theorem MsInv.start(u v:List Nat)(g:Nat):MsInv u v g 0 [] 0 0:=⟨rfl,Lm.nil,dD,oM,by simp[val]⟩
theorem MsInv.step{u v:List Nat}{g i x y:Nat}{N:List Nat}{c b:Nat}(hg:g<B)(hu:Lm u)(hv:Lm v)(hx:u[i]? =some x)(hy:v[i]? =some y)(h:MsInv u v g i N c b):
  MsInv u v g (i+1) (N++[iQ x ((c+g*y)%B+b)]) ((c+g*y)/B) (lE x ((c+g*y)%B+b))∧c+g*y<B*B:=by
 obtain⟨a1,a2,a3,a4,a5⟩:=h;have hyB:=hv.get hy;have hxB:=hu.get hx;have hm:=(mO a3 hg hyB dD).1;rw[Nat.add_zero] at hm;have hlo:(c+g*y)%B<B:=Nat.mod_lt _ dD;refine⟨⟨by simp[a1],gE a2 (by unfold iQ;split<;>omega),Nat.div_lt_of_lt_mul hm,by unfold lE;split<;>omega,?_⟩,hm⟩
 rw[eX,bH,bH,a1,hx,hy,Option.getD_some,Option.getD_some];have e:=Nat.mod_add_div (c+g*y) B;generalize ht:c+g*y=t at*;have key:iQ x (t%B+b)+(t%B+b)=x+B*lE x (t%B+b):=by unfold iQ lE;split<;>omega
 have k2:B^i*iQ x (t%B+b)+B^i*(g*y)+B^i*(c+b)=B^i*x+B^(i+1)*(t/B+lE x (t%B+b)):=by
  rw[Nat.pow_succ,Nat.mul_assoc (B^i) B,←Nat.mul_add,←Nat.mul_add,←Nat.mul_add];congr 1
  rw[Nat.mul_add B];omega
 have e3:g*(val (v.take i)+B^i*y)=g*val (v.take i)+B^i*(g*y):=by
  rw[Nat.mul_add,←Nat.mul_assoc g,Nat.mul_comm g (B^i),Nat.mul_assoc]
 rw[e3];rw[Nat.mul_add (B^i) c b] at*;omega
theorem MsInv.right{u v:List Nat}{g n x:Nat}{N:List Nat}{c b:Nat}(h:MsInv u v g n N c b)(hv:v.length=n)(hu:u.length=n+1)(hx:u[n]? =some x)(hum:Lm u)(hq1:val u/val v≤g)(hV:0<val v)(hcb:c+b≤x):
  g=val u/val v∧N++[x-(c+b)]=pd (val u%val v) (n+1):=by
 obtain⟨a1,a2,a3,a4,a5⟩:=h;have hU:val u=val (u.take n)+B^n*x:=by
  have:=bH u n;rw[List.take_of_length_le oM,hx,Option.getD_some] at this;exact this
 rw[List.take_of_length_le oM] at a5;have e:val u=g*val v+val (N++[x-(c+b)]):=by
  rw[eX,a1,hU];have:B^n*x=B^n*(c+b)+B^n*(x-(c+b)):=by rw[←Nat.mul_add];congr 1;omega
  omega
 have hg:g≤val u/val v:=by rw[Nat.le_div_iff_mul_le hV];omega
 have hgq:g=val u/val v:=oM;refine⟨hgq,sB (gE a2 (by have:=hum.get hx;omega)) ?_ (by simp[a1])⟩
 have:=Nat.div_add_mod (val u) (val v);rw[←hgq,Nat.mul_comm] at this;omega
theorem MsInv.wrong{u v:List Nat}{g n x:Nat}{N:List Nat}{c b:Nat}(h:MsInv u v g n N c b)(hv:v.length=n)(hu:u.length=n+1)(hx:u[n]? =some x)(hvm:Lm v)(hq2:g≤val u/val v+1)(hV:0<val v)(hcb:x<c+b):
  g=val u/val v+1∧c+b=x+1∧∀N2 cc,SumInv N v n N2 cc→cc=1∧N2++[0]=pd (val u%val v) (n+1):=by
 obtain⟨a1,a2,a3,a4,a5⟩:=h;have hU:val u=val (u.take n)+B^n*x:=by
  have:=bH u n;rw[List.take_of_length_le oM,hx,Option.getD_some] at this;exact this
 rw[List.take_of_length_le oM] at a5;have hN:=fE a2;rw[a1] at hN;have hVB:=fE hvm;rw[hv] at hVB;have e:val N+g*val v=val u+B^n*(c+b-x):=by
  have:B^n*(c+b)=B^n*x+B^n*(c+b-x):=by rw[←Nat.mul_add];congr 1;omega
  omega
 have hR:=Nat.div_add_mod (val u) (val v);have hRlt:=Nat.mod_lt (val u) hV;have hg:g=val u/val v+1:=by
  rcases Nat.lt_or_ge (val u/val v) g with hlt|hge
  ·omega
  ·exfalso
   have h1:g*val v≤val u:=Nat.le_trans (Nat.mul_le_mul_right _ hge) (Nat.div_mul_le_self _ _);have h2:B^n*1≤B^n*(c+b-x):=Nat.mul_le_mul_left _ oM;omega
 have e2:val N+val v=val u%val v+B^n*(c+b-x):=by
  rw[hg,Nat.add_mul,Nat.one_mul,Nat.mul_comm (val u/val v)] at e;omega
 have hk:c+b-x=1:=by
  rcases Nat.lt_or_ge (c+b-x) 2 with h2|h2
  ·omega
  ·exfalso
   have:B^n*2≤B^n*(c+b-x):=Nat.mul_le_mul_left _ h2;omega
 refine⟨hg,oM,fun N2 cc hS=>?_⟩;obtain⟨s1,s2,s3,s4⟩:=hS;rw[List.take_of_length_le oM,List.take_of_length_le oM,e2,hk,Nat.mul_one] at s4;have hN2:=fE s2;rw[s1] at hN2;have hcc:cc=1:=by
  rcases Nat.eq_zero_or_pos cc with h0|h0
  ·subst h0;simp at s4;omega
  ·omega
 refine⟨hcc,sB (gE s2 dD) ?_ (by simp[s1])⟩
 rw[eX,Nat.mul_zero,Nat.add_zero];rw[hcc] at s4;omega
theorem kn_of{u v:List Nat}{n:Nat}{v1 v2 u0 u1 u2:Nat}(hn:2≤n)(hv:v.length=n)(hu:u.length=n+1)(hvm:Lm v)(hum:Lm u)
  (h1:v[n-1]? =some v1) (h2:v[n-2]? =some v2) (g0:u[n]? =some u0) (g1:u[n-1]? =some u1) (g2:u[n-2]? =some u2) (hnorm:B≤2*v1) (hlt:val u<val v*B):
  Kn (B^(n-2)) (val v) (val u) (val (v.take (n-2))) (val (u.take (n-2))) v1 v2 u0 u1 u2:=by
 obtain⟨m,rfl⟩:∃m,n=m+2:=⟨n-2,oM⟩;simp only[show m+2-1=m+1 by omega,show m+2-2=m by omega] at*
 have l1:=fE (hvm.take m);have l2:=fE (hum.take m);rw[List.length_take,Nat.min_eq_left oM] at l1 l2;have e1:=bH v m;have e2:=bH v (m+1);have f1:=bH u m;have f2:=bH u (m+1);have f3:=bH u (m+2);rw[h2,Option.getD_some] at e1;rw[h1,Option.getD_some,List.take_of_length_le oM] at e2;rw[g2,Option.getD_some] at f1;rw[g1,Option.getD_some] at f2;rw[g0,Option.getD_some,List.take_of_length_le oM] at f3;refine⟨?_,?_,l1,l2,hvm.get h1,hvm.get h2,hum.get g1,hum.get g2,hnorm,hlt⟩
 ·rw[e2,e1,Nat.pow_succ,Nat.mul_add,Nat.mul_assoc];omega
 ·have p1:B^(m+2)*u0=B^m*(B*(u0*B)):=by rw[Nat.pow_succ,Nat.pow_succ,Nat.mul_assoc,Nat.mul_assoc,Nat.mul_comm B u0]
  have p2:B^(m+1)*u1=B^m*(B*u1):=by rw[Nat.pow_succ,Nat.mul_assoc]
  rw[f3,f2,f1,p1,p2,Nat.mul_add (B^m) u2,Nat.mul_add B,Nat.mul_add (B^m) (B*(u0*B))];omega
end Go.Proofs.YtfmjdlogjmofbaaGreatDoor.Limb
namespace Go.Proofs.YtfmjdlogjmofbaaGreatDoor.Limb
def LdInv(X V n k:Nat)(R qs:List Nat):Prop:=R.length=n∧Lm R∧Lm qs∧val R+B^k*(val qs*V)=X∧val R<B^k*V
theorem cZD{l:List Nat}(h:∀x∈l,x=0):val l=0:=by
 induction l with
 |nil=>rfl
 |cons x l ih=>rw[val,h x (by simp),ih fun y hy=>h y (by simp[hy])];rfl
theorem xF(Lo u Hi:List Nat):val (Lo++(u++Hi))=val Lo+B^Lo.length*val u+B^(Lo.length+u.length)*val Hi:=by
 rw[eY,eY,Nat.mul_add,←Nat.mul_assoc,←Nat.pow_add,Nat.add_assoc]
theorem LdInv.step{X V n j:Nat}{Lo u Hi qs:List Nat}(hV:0<V)(hLo:Lo.length=j)(hVu:V<B^(u.length-1))(hu:1≤u.length)(h:LdInv X V n (j+1) (Lo++(u++Hi)) qs):
  val u<V*B∧LdInv X V n j (Lo++(pd (val u%V) u.length++Hi)) (val u/V::qs):=by
 obtain⟨h1,h2,h3,h4,h5⟩:=h;have hs:=xF Lo u Hi;rw[hLo] at hs;have hHi:val Hi=0:=by
  rcases Nat.eq_zero_or_pos (val Hi) with h0|h0
  ·exact h0
  ·exfalso
   have e1:B^(j+u.length)*1≤B^(j+u.length)*val Hi:=Nat.mul_le_mul_left _ h0;have e2:B^(j+1)*V≤B^(j+1)*B^(u.length-1):=Nat.mul_le_mul_left _ (Nat.le_of_lt hVu);rw[←Nat.pow_add,show j+1+(u.length-1)=j+u.length by omega] at e2
   omega
 rw[hHi,Nat.mul_zero,Nat.add_zero] at hs;have hult:val u<V*B:=by
  have e1:B^j*val u<B^j*(V*B):=by
   have e2:B^(j+1)*V=B^j*(V*B):=by rw[Nat.pow_succ,Nat.mul_assoc,Nat.mul_comm B V]
   omega
  exact Nat.lt_of_mul_lt_mul_left e1
 have hq:val u/V<B:=Nat.div_lt_of_lt_mul hult;have hr:=Nat.mod_lt (val u) hV;have hrB:val u%V<B^u.length:=Nat.lt_of_lt_of_le (Nat.lt_trans hr hVu) (Nat.pow_le_pow_right dD oM);have hpv:=mN _ _ hrB;have hs':=xF Lo (pd (val u%V) u.length) Hi;rw[hLo,hHi,Nat.mul_zero,Nat.add_zero,hpv] at hs';have hLm:Lm Lo:=h2.sub fun x hx=>by simp[hx]
 have hHm:Lm Hi:=h2.sub fun x hx=>by simp[hx]
 have hLlt:=fE hLm;rw[hLo] at hLlt;have hdm:=Nat.div_add_mod (val u) V;refine⟨hult,by simp[dO] at h1 ⊢;omega,hLm.append ((oZ _ _).append hHm),Lm.cons hq h3,?_,?_⟩
 ·rw[hs',←h4,hs]
  simp only[val];have e1:B^(j+1)*(val qs*V)=B^j*(B*(val qs*V)):=by rw[Nat.pow_succ,Nat.mul_assoc]
  have e2:B^j*((val u/V+B*val qs)*V)=B^j*(V*(val u/V))+B^j*(B*(val qs*V)):=by
   rw[Nat.add_mul,Nat.mul_add,Nat.mul_comm (val u/V) V,Nat.mul_assoc B]
  have e3:B^j*val u=B^j*(V*(val u/V))+B^j*(val u%V):=by rw[←Nat.mul_add,hdm]
  omega
 ·rw[hs']
  have e1:B^j*(val u%V+1)≤B^j*V:=Nat.mul_le_mul_left _ hr;rw[Nat.mul_add,Nat.mul_one] at e1;omega
theorem LdInv.done{x y s n:Nat}{R qs:List Nat}(hy:0<y)(h:LdInv (x*2^s) (y*2^s) n 0 R qs):val qs=x/y∧val R/2^s=x%y:=by
 obtain⟨h1,h2,h3,h4,h5⟩:=h;rw[Nat.pow_zero,Nat.one_mul] at h4 h5;have hp:=Nat.two_pow_pos s;have hV:0<y*2^s:=Nat.mul_pos hy hp;have hq:x*2^s/(y*2^s)=val qs:=by rw[←h4,Nat.add_mul_div_right _ _ hV,Nat.div_eq_of_lt h5,Nat.zero_add]
 have hr:x*2^s%(y*2^s)=val R:=by rw[←h4,Nat.add_mul_mod_self_right,Nat.mod_eq_of_lt h5]
 rw[Nat.mul_div_mul_right _ _ hp] at hq;rw[Nat.mul_mod_mul_right] at hr;exact⟨hq.symm,by rw[←hr,Nat.mul_div_cancel _ hp]⟩
theorem mZq{y:Nat}(hy:y≠0):B^((aE y).length-1)≤y:=by
 obtain⟨i,z,hz⟩:∃i z,aE y=i++[z]:=by
  have hne:aE y≠[]:=by rw[dZ hy];simp
  exact⟨(aE y).dropLast,(aE y).getLast hne,(List.dropLast_concat_getLast hne).symm⟩
 have hz0:z≠0:=qF (n:=y) (by rw[hz];simp)
 have:=aN y;rw[hz,eX] at this;rw[hz];simp only[List.length_append,List.length_singleton,Nat.add_sub_cancel];have:B^i.length*1≤B^i.length*z:=Nat.mul_le_mul_left _ oM;omega
theorem LdInv.start{x y s:Nat}(hy:y≠0)(hle:(aE y).length≤(aE x).length)(hs:s<32):
  LdInv (x*2^s) (y*2^s) ((aE x).length+1) ((aE x).length-(aE y).length+1) (pd (x*2^s) ((aE x).length+1)) []:=by
 have hx:=eJ x;have hB:2^s≤B:=by rw[show B=2^32 from rfl];exact Nat.pow_le_pow_right oM oM
 have h1:x*2^s<B^((aE x).length+1):=by
  rw[Nat.pow_succ];exact Nat.lt_of_lt_of_le (Nat.mul_lt_mul_of_pos_right hx (Nat.two_pow_pos s)) (Nat.mul_le_mul_left _ hB)
 have hl:1≤(aE y).length:=by rw[dZ hy];simp
 refine⟨dO _ _,oZ _ _,Lm.nil,by rw[mN _ _ h1];simp[val],?_⟩
 rw[mN _ _ h1,←Nat.mul_assoc];refine Nat.mul_lt_mul_of_pos_right (Nat.lt_of_lt_of_le hx ?_) (Nat.two_pow_pos s);have:=Nat.mul_le_mul_left (B^((aE x).length-(aE y).length+1)) (mZq hy);rw[←Nat.pow_add,show(aE x).length-(aE y).length+1+((aE y).length-1)=(aE x).length by omega] at this
 exact this
theorem fZV:∀(n k:Nat),(pd n (k+1)).take k=pd n k
 |_,0=>rfl
 |n,k+1=>by
  show n%B::(pd (n/B) (k+1)).take k=n%B::pd (n/B) k
  rw[fZV (n/B) k]
def lz(t:Nat):Nat:=31-Nat.log2 t
theorem lZM{t:Nat}(h0:t≠0)(hB:t<B):lz t<32∧B≤2*(t*2^lz t)∧t*2^lz t<B:=by
 have h1:Nat.log2 t<32:=(Nat.log2_lt h0).2 hB;have h2:=Nat.log2_self_le h0;have h3:t<2^(Nat.log2 t+1):=Nat.lt_log2_self;unfold lz;generalize Nat.log2 t=l at*;have e:2^l*2^(31-l)=2^31:=by rw[←Nat.pow_add,show l+(31-l)=31 by omega]
 have e2:2^(l+1)*2^(31-l)=2^32:=by rw[←Nat.pow_add,show l+1+(31-l)=32 by omega]
 have a:=Nat.mul_le_mul_right (2^(31-l)) h2;have b:=Nat.mul_lt_mul_of_pos_right h3 (Nat.two_pow_pos (31-l));rw[e] at a;rw[e2] at b;refine⟨oM,?_,b⟩;rw[bM];omega
theorem iZM{y s:Nat}{t:Nat}(hy:y≠0)(ht:(aE y).getLast? =some t)(hB:t*2^s<B)(hn:B≤2*(t*2^s)):
  y*2^s<B^(aE y).length∧∀z,(pd (y*2^s) (aE y).length)[(aE y).length-1]? =some z→B≤2*z:=by
 obtain⟨i,hz⟩:∃i,aE y=i++[t]:=by
  have hne:aE y≠[]:=by rw[dZ hy];simp
  refine⟨(aE y).dropLast,?_⟩;have h1:=List.dropLast_concat_getLast hne;rw[List.getLast?_eq_some_getLast hne] at ht;rw[←Option.some.inj ht];exact h1.symm
 have hlm:=aJ y;rw[hz] at hlm;have hv:=aN y;rw[hz,eX] at hv;have hi:val i<B^i.length:=fE (hlm.sub fun x hx=>by simp[hx])
 have hlen:(aE y).length=i.length+1:=by rw[hz];simp
 have hlt:y*2^s<B^(i.length+1):=by
  have h1:y<B^i.length*(t+1):=by rw[←hv,Nat.mul_add,Nat.mul_one];omega
  have h2:(t+1)*2^s≤B:=by
   -- t 2^s < B and B is a multiple of 2^s
   have hs:s≤32:=by
    rcases Nat.lt_or_ge 32 s with h|h
    ·exfalso
     have ht0:1≤t:=by
      rcases Nat.eq_zero_or_pos t with h0|h0
      ·rw[h0] at hn;simp at hn;exact absurd hn aD
      ·exact h0
     have:B≤2^s:=by rw[show B=2^32 from rfl];exact Nat.pow_le_pow_right oM oM
     have:=Nat.mul_le_mul_right (2^s) ht0;omega
    ·exact h
   have hBs:B=2^(32-s)*2^s:=by rw[←Nat.pow_add,show 32-s+s=32 by omega];rfl
   rw[hBs] at hB ⊢;exact Nat.mul_le_mul_right _ (Nat.lt_of_mul_lt_mul_right hB)
  have h3:=Nat.mul_lt_mul_of_pos_right h1 (Nat.two_pow_pos s);rw[Nat.mul_assoc] at h3;rw[Nat.pow_succ];exact Nat.lt_of_lt_of_le h3 (Nat.mul_le_mul_left _ h2)
 refine⟨by rw[hlen];exact hlt,fun z hzz=>?_⟩
 rw[hlen] at hzz;have hpv:=mN _ _ hlt;have hpl:=dO (y*2^s) (i.length+1);have hts:=bH (pd (y*2^s) (i.length+1)) i.length;rw[List.take_of_length_le oM,hpv] at hts;rw[show i.length+1-1=i.length by omega] at hzz
 rw[hzz,Option.getD_some] at hts;have hlow:=fE ((oZ (y*2^s) (i.length+1)).take i.length);rw[List.length_take,hpl,Nat.min_eq_left oM] at hlow;have h5:B^i.length*(t*2^s)≤y*2^s:=by rw[←hv,Nat.add_mul,Nat.mul_assoc];omega
 have h6:B^i.length*(t*2^s)<B^i.length*(z+1):=by rw[Nat.mul_add,Nat.mul_one];omega
 have:=Nat.lt_of_mul_lt_mul_left h6;omega
end Go.Proofs.YtfmjdlogjmofbaaGreatDoor.Limb
namespace Go.Proofs.YtfmjdlogjmofbaaGreatDoor.Limb
theorem gZI:B=2^32:=rfl
theorem bZI:∀(n k j:Nat),j<k→(pd n k)[j]? =some (n/B^j%B)
 |n,0,j,h=>absurd h (Nat.not_lt_zero _)
 |n,k+1,0,_=>by rw[pd,Nat.pow_zero,Nat.div_one];rfl
 |n,k+1,j+1,h=>by
  rw[pd,List.getElem?_cons_succ,bZI _ _ _ oM,Nat.div_div_eq_div_mul,Nat.pow_succ,Nat.mul_comm B]
theorem jZZ{x j:Nat}(h:j<(aE x).length):(aE x)[j]? =some (x/B^j%B):=by
 rw[sB (aJ x) (aN x) rfl];exact bZI _ _ _ h
theorem fZ0 : ∀ {l : List Nat} {j x : Nat} (y : Nat), l[j]? = some x → val (l.set j y) + B ^ j * x = val l + B ^ j * y
 | [], j, x, y, h => by simp at h
 | a :: l, 0, x, y, h => by
  simp at h; subst h;simp only [List.set, val, Nat.pow_zero, Nat.one_mul]; omega
 | a :: l, j + 1, x, y, h => by
  have ih := fZ0 (l := l) (j := j) (x := x) y (by simpa using h)
  simp only [List.set, val];rw [Nat.pow_succ, Nat.mul_comm (B ^ j) B, Nat.mul_assoc, Nat.mul_assoc];have := congrArg (B * ·) ih;simp only [Nat.mul_add] at this;omega
theorem tP(i:Nat):2^i=B^(i/32)*2^(i%32):=by
 rw[gZI,←Nat.pow_mul,←Nat.pow_add,Nat.div_add_mod]
theorem jZv(x i:Nat):x/B^(i/32)%B/2^(i%32)%2=x/2^i%2:=by
 rw[tP i,←Nat.div_div_eq_div_mul];generalize x/B^(i/32)=z;have he:i%32<32:=Nat.mod_lt _ aD;generalize i%32=e at*;have h:=Nat.testBit_mod_two_pow z 32 e;rw[decide_eq_true he,Bool.true_and,Nat.testBit_eq_decide_div_mod_eq,Nat.testBit_eq_decide_div_mod_eq] at h;rw[gZI];have h':=decide_eq_decide.1 h;have a1:=Nat.mod_two_eq_zero_or_one (z%2^32/2^e);have a2:=Nat.mod_two_eq_zero_or_one (z/2^e);omega
def QV(x y i:Nat):Nat:=x/2^i/y*2^i
theorem aZT(x i:Nat):x/2^i=2*(x/2^(i+1))+x/2^i%2:=by
 rw[Nat.pow_succ,←Nat.div_div_eq_div_mul];omega
theorem dv_lo{x y i:Nat}(h:2*(x/2^(i+1)%y)+x/2^i%2<y):x/2^i%y=2*(x/2^(i+1)%y)+x/2^i%2∧QV x y i=QV x y (i+1):=by
 have e:=aZT x i;have d:=Nat.div_add_mod (x/2^(i+1)) y;unfold QV;rw[Nat.pow_succ (n:=2) (m:=i)] at*;generalize x/(2^i*2)=X' at*;generalize x/2^i%2=b at*;generalize x/2^i=X at*;have hX:X=y*(2*(X'/y))+(2*(X'%y)+b):=by
  rw[e];have:y*(2*(X'/y))=2*(y*(X'/y)):=by rw[Nat.mul_left_comm]
  omega
 have hy:0<y:=oM;refine⟨by rw[hX,Nat.mul_add_mod,Nat.mod_eq_of_lt h],?_⟩
 have:X/y=2*(X'/y):=by rw[hX,Nat.mul_add_div hy,Nat.div_eq_of_lt h,Nat.add_zero]
 rw[this,Nat.mul_comm 2,Nat.mul_assoc,Nat.mul_comm 2]
theorem dv_hi{x y i:Nat}(hy:0<y)(h:y≤2*(x/2^(i+1)%y)+x/2^i%2):x/2^i%y=2*(x/2^(i+1)%y)+x/2^i%2-y∧QV x y i=QV x y (i+1)+2^i:=by
 have e:=aZT x i;have d:=Nat.div_add_mod (x/2^(i+1)) y;have lt:=Nat.mod_lt (x/2^(i+1)) hy;have hb:x/2^i%2<2:=Nat.mod_lt _ aD;unfold QV;rw[Nat.pow_succ (n:=2) (m:=i)] at*;generalize x/(2^i*2)=X' at*;generalize x/2^i%2=b at*;generalize x/2^i=X at*;have hX:X=y*(2*(X'/y)+1)+(2*(X'%y)+b-y):=by
  rw[e];have:y*(2*(X'/y)+1)=2*(y*(X'/y))+y:=by rw[Nat.mul_add,Nat.mul_left_comm,Nat.mul_one]
  omega
 have h':2*(X'%y)+b-y<y:=oM;refine⟨by rw[hX,Nat.mul_add_mod,Nat.mod_eq_of_lt h'],?_⟩
 have:X/y=2*(X'/y)+1:=by rw[hX,Nat.mul_add_div hy,Nat.div_eq_of_lt h',Nat.add_zero]
 rw[this,Nat.add_mul,Nat.one_mul,Nat.mul_comm 2,Nat.mul_assoc,Nat.mul_comm 2]
theorem pZK(x y i:Nat):2^i∣QV x y i:=⟨_,Nat.mul_comm _ _⟩
theorem QV_le(x y i:Nat):QV x y i≤x:=by
 unfold QV;exact Nat.le_trans (Nat.mul_le_mul_right _ (Nat.div_le_self _ _)) (Nat.div_mul_le_self _ _)
theorem nZj(x y:Nat):QV x y 0=x/y:=by unfold QV;rw[Nat.pow_zero,Nat.div_one,Nat.mul_one]
theorem aZN{V i:Nat}(hd:2^(i+1)∣V):∃c,V/B^(i/32)%B=2^(i%32+1)*c∧V/B^(i/32)%B+2^(i%32)<B:=by
 have he:i%32+1≤32:=Nat.mod_lt _ aD;have h1:2^(i%32+1)∣V/B^(i/32):=by
  obtain⟨c,rfl⟩:=hd;refine⟨c,?_⟩;rw[Nat.pow_succ,tP i,Nat.mul_assoc,Nat.mul_assoc,Nat.mul_div_cancel_left _ (Nat.pow_pos dD),←Nat.mul_assoc,←Nat.pow_succ]
 have h2:2^(i%32+1)∣B:=by rw[gZI];exact Nat.pow_dvd_pow 2 he
 have h3:2^(i%32+1)∣V/B^(i/32)%B:=(Nat.dvd_mod_iff h2).2 h1;have hlt:V/B^(i/32)%B<B:=Nat.mod_lt _ dD;generalize V/B^(i/32)%B=a at*;obtain⟨c,rfl⟩:=h3;refine⟨c,rfl,?_⟩;obtain⟨d,hd'⟩:=h2;have hp:=Nat.two_pow_pos (i%32);have hcd:c<d:=by
  rw[hd'] at hlt;exact Nat.lt_of_mul_lt_mul_left hlt
 have:=Nat.mul_le_mul_left (2^(i%32+1)) hcd;rw[←hd',Nat.mul_succ,Nat.pow_succ] at this;rw[Nat.pow_succ];omega
theorem pd_or{V i k:Nat}(hk:i/32<k)(hd:2^(i+1)∣V)(hV:V<B^k):(pd V k).set (i/32) (V/B^(i/32)%B+2^(i%32))=pd (V+2^i) k:=by
 obtain⟨c,_,hlt⟩:=aZN hd;refine sB ?_ ?_ (by rw[List.length_set,dO])
 ·intro y hy
  rcases List.mem_or_eq_of_mem_set hy with h|h
  ·exact oZ _ _ y h
  ·rw[h];exact hlt
 ·have:=fZ0 (V/B^(i/32)%B+2^(i%32)) (bZI V k _ hk)
  rw[mN _ _ hV,Nat.mul_add,←tP] at this;omega
end Go.Proofs.YtfmjdlogjmofbaaGreatDoor.Limb
set_option maxRecDepth 3000
namespace Go.Proofs.YtfmjdlogjmofbaaGreatDoor
section
open Go.RowKit Limb
class CElem(P:Program)(T:TypeId)(E:outParam TypeId)(k:outParam Nat):Prop where
 ok:P.underlying T=some (.slice E)∧(P.info? E).map (·.size)=some k
def cpR(ps:List Pd):Pd:=⟨fun h v=>∃b o vs,v= .pointer (some ⟨b,o,none⟩)∧All2 h ps vs∧∀j u,vs[j]? =some u→h b (o+j)=some u,
 fun _ _ _ hl ⟨b,o,vs,h1,h2,h3⟩=>⟨b,o,vs,h1,h2.mono hl,fun j u hu=>hl _ _ _ (h3 j u hu)⟩⟩
def lb(x:Nat):Pd:=ex (.int .u32 (x:Int))
instance(x:Nat):C1 (lb x):=⟨fun _ _ h=>by rw[h];rfl⟩
def mag(l:List Nat):Pd:=⟨fun h v=>(∃a cap,v= .slice a l.length cap∧l.length≤cap∧(cap≤maxLen∧(a=none→cap=0))∧(l≠[]→∃b off,a=some ⟨b,off,none⟩∧∀j x,l[j]? =some x→h b (off+j)=some (.int .u32 (x:Nat))))∧Lm l,
 fun _ _ _ hl ⟨⟨a,cap,h1,h2,h3,h4⟩,h5⟩=>⟨⟨a,cap,h1,h2,h3,fun hn=>let ⟨b,off,e,hc⟩:=h4 hn;⟨b,off,e,fun j x hx=>hl _ _ _ (hc j x hx)⟩⟩,h5⟩⟩
instance(l:List Nat):C1 (mag l):=⟨fun _ _ ⟨⟨_,_,h,_⟩,_⟩=>by rw[h];rfl⟩
instance(l:List Nat):CLen (mag l) l.length:=⟨fun _ _ ⟨⟨a,cap,h,_⟩,_⟩=>⟨a,cap,h⟩⟩
theorem pX:PLe (ex (.slice none 0 0)) (mag []):=fun _ _ h=>⟨⟨none,0,h,Nat.le_refl _,⟨by unfold maxLen;omega,fun _=>rfl⟩,fun h=>absurd rfl h⟩,Lm.nil⟩
section
variable{P:Program}{En:Ev}{n:Nat}{sl:Sl}{bx:Bx}{dst:Option Tmp}{ty:TypeId}{pos:String}{after:Array Edge}{guard:Option (Nat×Bool)}
theorem mT{T E:TypeId}{k:Nat}(hT:CElem P T E k)(b o len cap:Nat)(kk:IntKind){i:Nat}(hi:i<len)(w:World):(Instr.indexAt T (.slice (some ⟨b,o,none⟩) len cap) (.int kk (i:Int))).run P w= .ok (.pointer (some ⟨b,o+i*k,none⟩)) w:=by
 obtain⟨h1,h2⟩:=hT.ok;obtain⟨inf,h3,h4⟩:=Option.map_eq_some_iff.1 h2;have h5:(0:Int)≤(i:Int)∧(i:Int)<(len:Int):=oM;simp only[Instr.indexAt,asIntOf,Sem.run_bind,Sem.run_pure,Result.andThen_ok,run_underlying h1,if_pos h5,sizeOf,run_typeInfo _ h3,h4];rw[Addr.add_mid,Int.toNat_natCast]
theorem bY{T E:TypeId}{x ix:Operand}{l:List Nat}{kk:IntKind}{i y:Nat}[hT:CElem P T E 1](hx:osd sl x=some (.one (mag l)))(hi:osd sl ix=some (.one (ex (.int kk (i:Int)))))(hy:l[i]? =some y):
  RT P En n ⟨dst,.indexAddr T x ix,ty,pos,after,guard⟩ sl bx ⟨.one (cpR [lb y]),[],[]⟩:=
 RT.pure fun ρ h β bx' H=>by
  obtain⟨⟨a,cap,h1,h2,h3,h4⟩,h5⟩:(mag l).p h (ρ x):=(H x (by simp[Op.operands]) _ hx).1
  have h6:ρ ix= .int kk (i:Int):=(H ix (by simp[Op.operands]) _ hi).1
  have hlt:=(List.getElem?_eq_some_iff.1 hy).1;obtain⟨b,off,rfl,hc⟩:=h4 (by rintro rfl;simp at hlt)
  refine⟨.pointer (some ⟨b,off+i*1,none⟩),fun w _=>?_,⟨b,off+i*1,[.int .u32 (y:Int)],rfl,⟨rfl,rfl,trivial⟩,fun j u hu=>?_⟩,trivial⟩
  ·simp only[execOp,h1,h6,Sem.run_bind,mT hT b off l.length cap kk hlt w,Result.andThen_ok,Sem.run_pure]
  ·cases j with
   |zero=>simp at hu;rw[←hu,Nat.mul_one];exact hc i y hy
   |succ j=>simp at hu
theorem aZ{T:TypeId}{x:Operand}{ps:List Pd}{p:Pd}[ht:COne P T](hx:osd sl x=some (.one (cpR ps)))(hp:ps[0]? =some p):RT P En n ⟨dst,.load T x,ty,pos,after,guard⟩ sl bx ⟨.one p,[],[]⟩:=
 RT.pure fun ρ h β bx' H=>by
  obtain⟨b,o,vs,h1,h2,h3⟩:(cpR ps).p h (ρ x):=(H x (by simp[Op.operands]) _ hx).1
  obtain⟨v,hv,hpv,_⟩:=h2.get hp;obtain⟨d,hd1,hd2,_⟩:=ht.ok;refine⟨v,fun w hh=>?_,hpv,trivial⟩;have hc:w.cell? ⟨b,o,none⟩=some v:=hh _ _ _ (by simpa using h3 0 v hv)
  simp only[execOp,h1,Instr.loadAt,Instr.sureAddr,loadVar,Sem.run_bind,Sem.run_pure,Result.andThen_ok,kF hd1,hd2];simp[load,Sem.run,hc]
theorem iZF{T:TypeId}{x:Operand}{k:Nat}{ps:List Pd}[ht:CRow P T k](hx:osd sl x=some (.one (cpR ps)))(hk:Nat.ble k ps.length=true){qs:List Pd}(hq:ps.take k=qs):RT P En n ⟨dst,.load T x,ty,pos,after,guard⟩ sl bx ⟨.one (cD qs),[],[]⟩:=
 RT.pure fun ρ h β bx' H=>by
  subst hq;obtain⟨b,o,vs,h1,h2,h3⟩:(cpR ps).p h (ρ x):=(H x (by simp[Op.operands]) _ hx).1
  obtain⟨d,hd1,hd2,hd3⟩:=ht.ok;have hk:=Nat.le_of_ble_eq_true hk;have hl:=h2.length;have hlt:(vs.take k).length=k:=by simp;omega
  refine⟨.agg (vs.take k).toArray,fun w hh=>?_,⟨_,rfl,h2.take k⟩,trivial⟩;have hr:w.rangeAt b o (vs.take k):=fun j v hv=>by
   rw[List.getElem?_take] at hv;split at hv
   ·exact hh _ _ _ (h3 j v hv)
   ·cases hv
  simp only[execOp,h1,Sem.run_bind,run_loadAt_mid w b o T (vs.take k) d hr hd1 hd2 (by rw[hlt];exact hd3),Result.andThen_ok,Sem.run_pure]
theorem aI{S:TypeId}{x:Operand}{f off:Nat}{ps:List Pd}[hf:CField P S f off](hx:osd sl x=some (.one (cpR ps))){qs:List Pd}(hq:ps.drop off=qs):RT P En n ⟨dst,.fieldAddr S x f,ty,pos,after,guard⟩ sl bx ⟨.one (cpR qs),[],[]⟩:=
 RT.pure fun ρ h β bx' H=>by
  subst hq;obtain⟨b,o,vs,h1,h2,h3⟩:(cpR ps).p h (ρ x):=(H x (by simp[Op.operands]) _ hx).1
  obtain⟨fs,fd,e1,e2,e3,e45⟩:=hf.ok;obtain⟨i,e4,e5'⟩:=Option.map_eq_some_iff.1 e45;have e5:i.size≠0:=by intro h0;rw[h0] at e5';cases e5'
  refine⟨.pointer (some ⟨b,o+off,none⟩),fun w _=>?_,⟨b,o+off,vs.drop off,rfl,h2.drop off,fun j u hu=>?_⟩,trivial⟩
  ·simp only[execOp,h1,Instr.fieldAt,Instr.sureAddr,Sem.run_bind,run_underlying e1,Result.andThen_ok,e2,Sem.run_pure,fieldPlace,sizeOf,run_typeInfo _ e4,if_neg e5]
   rw[Addr.add_mid,e3]
  ·rw[Nat.add_assoc];exact h3 (off+j) u (by simpa using hu)
theorem xQ{T E:TypeId}{k:Nat}(hT:CElem P T E k)(a:Option Addr)(len cap:Nat)(lo hi:Option Value)(l h:Nat)(w:World)(hb:(Instr.sliceBounds true len cap lo hi none).run P w= .ok (l,h,cap) w):
  (Instr.sliceAt T (.slice a len cap) lo hi none).run P w= .ok (.slice (if cap=l then a else a.map (·.add (l*k))) (h-l) (cap-l)) w:=by
 obtain⟨h1,h2⟩:=hT.ok;obtain⟨inf,h3,h4⟩:=Option.map_eq_some_iff.1 h2;simp only[Instr.sliceAt,Instr.slice,Sem.run_bind,run_underlying h1,Result.andThen_ok,hb,sizeOf,run_typeInfo _ h3,Sem.run_pure,h4]
theorem eZD(len cap:Nat)(kk:IntKind){j:Nat}(hj:j≤cap)(w:World):(Instr.sliceBounds true len cap none (some (.int kk (j:Int))) none).run P w= .ok (0,j,cap) w:=by
 simp[Instr.sliceBounds,Instr.sliceBound,asIntOf,hj]
theorem oZ4(len cap:Nat)(kk:IntKind){j:Nat}(hj:j≤len)(w:World):(Instr.sliceBounds true len cap (some (.int kk (j:Int))) none none).run P w= .ok (j,len,cap) w:=by
 simp[Instr.sliceBounds,Instr.sliceBound,asIntOf,hj]
theorem lZo(len cap:Nat)(kk kk':IntKind){j i:Nat}(hi:i≤j)(hj:j≤cap)(w:World):(Instr.sliceBounds true len cap (some (.int kk (i:Int))) (some (.int kk' (j:Int))) none).run P w= .ok (i,j,cap) w:=by
 simp[Instr.sliceBounds,Instr.sliceBound,asIntOf,hj,hi]
theorem aZ8{T E:TypeId}{x ix:Operand}{l:List Nat}{kk:IntKind}{j:Nat}[hT:CElem P T E 1](hx:osd sl x=some (.one (mag l)))(hi:osd sl ix=some (.one (ex (.int kk (j:Int)))))(hj:j≤l.length):
  RT P En n ⟨dst,.slice T x none (some ix) none,ty,pos,after,guard⟩ sl bx ⟨.one (mag (l.take j)),[],[]⟩:=
 RT.pure fun ρ h β bx' H=>by
  obtain⟨⟨a,cap,h1,h2,h3,h4⟩,h5⟩:(mag l).p h (ρ x):=(H x (by simp[Op.operands]) _ hx).1
  have h6:ρ ix= .int kk (j:Int):=(H ix (by simp[Op.operands]) _ hi).1
  have hlen:(l.take j).length=j:=by simp;omega
  refine⟨.slice a j cap,fun w _=>?_,⟨⟨a,cap,by rw[hlen],by rw[hlen];omega,h3,fun hl=>?_⟩,h5.take j⟩,trivial⟩
  ·simp only[execOp,Option.map_none,Option.map_some,h1,h6,Sem.run_bind,xQ hT a l.length cap none (some (.int kk (j:Int))) 0 j w (eZD _ _ _ oM w),Result.andThen_ok,Sem.run_pure]
   have:(if cap=0 then a else a.map (·.add (0*1)))=a:=by
    split
    ·rfl
    ·cases a with
     |none=>rfl
     |some ad=>simp[Addr.add]
   rw[this];rfl
  ·obtain⟨b,off,e,hc⟩:=h4 (by rintro rfl;simp at hl)
   refine⟨b,off,e,fun i x hx=>hc i x ?_⟩;rw[List.getElem?_take] at hx;split at hx
   ·exact hx
   ·cases hx
theorem eO{T E:TypeId}{x ix:Operand}{b o len cap:Nat}{kk:IntKind}{i:Nat}[hT:CElem P T E 1](hx:osd sl x=some (.own b o len cap))(hi:osd sl ix=some (.one (ex (.int kk (i:Int)))))(hy:i<len):
  RT P En n ⟨dst,.indexAddr T x ix,ty,pos,after,guard⟩ sl bx ⟨.ptr b (o+i),[],[]⟩:=
 RT.pure fun ρ h β bx' H=>by
  obtain⟨h1,hl⟩:=H x (by simp[Op.operands]) _ hx
  obtain⟨cap',h1,hcc,hcm⟩:∃cap',ρ x= .slice (some ⟨β b,o,none⟩) len cap'∧cap≤cap'∧cap'≤maxLen:=h1;have h6:ρ ix= .int kk (i:Int):=(H ix (by simp[Op.operands]) _ hi).1
  refine⟨.pointer (some ⟨β b,o+i*1,none⟩),fun w _=>?_,by rw[Nat.mul_one];rfl,hl⟩
  simp only[execOp,h1,h6,Sem.run_bind,mT hT (β b) o len cap' kk hy w,Result.andThen_ok,Sem.run_pure]
theorem dN{T E:TypeId}{x ix:Operand}{b len cap:Nat}{kk:IntKind}{i:Nat}[CElem P T E 1](hx:osd sl x=some (.own b 0 len cap))(hi:osd sl ix=some (.one (ex (.int kk (i:Int)))))(hy:i<len):
  RT P En n ⟨dst,.indexAddr T x ix,ty,pos,after,guard⟩ sl bx ⟨.ptr b i,[],[]⟩:=by
 have:=eO (T:=T) (P:=P) (En:=En) (n:=n) (sl:=sl) (bx:=bx) (dst:=dst) (ty:=ty) (pos:=pos) (after:=after) (guard:=guard) hx hi hy;rwa[Nat.zero_add] at this
theorem bX{T:TypeId}{x y:Operand}{b o:Nat}{ps:List Pd}{q:Pd}[COne P T][C1 q](hx:osd sl x=some (.ptr b o))(hy:osd sl y=some (.one q))(hb:aB bx b=some ps)(hk:o<ps.length){rs:List Pd}(hr:ps.set o q=rs)(hl:lk b=false:=by rfl):
  RT P En n ⟨dst,.store T x y,ty,pos,after,guard⟩ sl bx ⟨.one (ex undef),[b],[(b,rs)]⟩:=by
 subst hr;exact tS o hx hy hb COne.ok (by rw[Nat.blt,Nat.ble_eq];exact hk) hl
theorem cP{x:Operand}{T E:TypeId}{b o len cap:Nat}(hx:osd sl x=some (.own b o len cap))(ht:P.underlying T=some (.slice E)):RT P En n ⟨dst,.call ⟨.builtin .len, #[x], #[T]⟩,ty,pos,after,guard⟩ sl bx ⟨.one (i6 (len:Nat)),[],[]⟩:=
 RT.pure fun ρ h β bx' H=>by
  obtain⟨cap',hv,_,_⟩:∃cap',ρ x= .slice (some ⟨β b,o,none⟩) len cap'∧cap≤cap'∧cap'≤maxLen:=(H x (by simp[Op.operands,Call.operands]) _ hx).1
  refine⟨.int .i64 (len:Nat),fun w _=>?_,rfl,trivial⟩;simp[execOp,resolve,invoke,builtin,Builtin.len_,hv,run_underlying ht,goInt]
theorem xT{T E:TypeId}{x lx hx:Operand}{b o len cap:Nat}{kk kk':IntKind}{i j:Nat}[hT:CElem P T E 1](h1:osd sl x=some (.own b o len cap))(h2:osd sl lx=some (.one (ex (.int kk (i:Int)))))(h3:osd sl hx=some (.one (ex (.int kk' (j:Int)))))(hij:i≤j)(hj:j≤cap)(hc:i<cap):
  RT P En n ⟨dst,.slice T x (some lx) (some hx) none,ty,pos,after,guard⟩ sl bx ⟨.own b (o+i) (j-i) (cap-i),[],[]⟩:=
 RT.pure fun ρ h β bx' H=>by
  obtain⟨e1,hl⟩:=H x (by simp[Op.operands]) _ h1
  obtain⟨cap',e1,hcc,hcm⟩:∃cap',ρ x= .slice (some ⟨β b,o,none⟩) len cap'∧cap≤cap'∧cap'≤maxLen:=e1;have e2:ρ lx= .int kk (i:Int):=(H lx (by simp[Op.operands]) _ h2).1
  have e3:ρ hx= .int kk' (j:Int):=(H hx (by simp[Op.operands]) _ h3).1
  refine⟨.slice (some ⟨β b,o+i,none⟩) (j-i) (cap'-i),fun w _=>?_,⟨cap'-i,rfl,oM,oM⟩,hl⟩;simp only[execOp,Option.map_none,Option.map_some,e1,e2,e3,Sem.run_bind,xQ hT _ len cap' _ _ i j w (lZo _ _ _ _ hij oM w),Result.andThen_ok,Sem.run_pure,if_neg (show ¬cap'=i by omega)]
  rw[Addr.add_mid,Nat.mul_one]
end
end
section
open Go.RowKit Limb
class CZero1(P:Program)(E:TypeId)(z:outParam Value)(bytes:outParam Nat):Prop where
 ok:(P.info? E).map (fun i=>(i.zero,i.size,i.bytes))=some (some z,1,bytes)∧z.oneCell'=true
section
variable{P:Program}{En:Ev}{n:Nat}{sl:Sl}{bx:Bx}{dst:Option Tmp}{ty:TypeId}{pos:String}{after:Array Edge}{guard:Option (Nat×Bool)}
theorem dZx(z:Value)(hz:z.oneCell'=true)(m:Nat):madeCells z.cells m=(List.replicate m z).toArray:=by
 rw[iK hz];apply Array.ext
 ·simp[madeCells]
 ·intro i h1 h2
  simp[madeCells,Nat.mod_one]
theorem eZm{h:GH}{z:Value}(hz:z.oneCell'=true):∀m,All2 h (List.replicate m (ex z)) (List.replicate m z)
 |0=>trivial
 |m+1=>⟨rfl,hz,eZm hz m⟩
theorem nT{T E:TypeId}{x y:Operand}{kl kc:IntKind}{d m bytes:Nat}{z:Value}[hT:CElem P T E 1][hz:CZero1 P E z bytes](hx:osd sl x=some (.one (ex (.int kl (m:Int)))))(hy:osd sl y=some (.one (ex (.int kc (m:Int)))))(hd:Nat.blt d 400=true)(hn:aB bx d=none)(hb:bytes*m≤281474976710656)(hm:m≤9223372036854775807):
  RT P En n ⟨some d,.makeSlice T x y,ty,pos,after,guard⟩ sl bx ⟨.own d 0 m m,[],[(d,List.replicate m (ex z))]⟩:=by
 intro sl' bx' h1 _ h3 w0 h0 c h β a w Q hi hs;have hd:d<400:=Nat.le_of_ble_eq_true hd;have hn':aB bx' d=none:=by rw[h3 d (by simp)];exact hn
 have e1:a.eval x= .int kl (m:Int):=(cH hs (x:=x) (sd:= .one (ex (.int kl (m:Int)))) (by rw[h1 x (by simp[Op.operands])];exact hx)).1
 have e2:a.eval y= .int kc (m:Int):=(cH hs (x:=y) (sd:= .one (ex (.int kc (m:Int)))) (by rw[h1 y (by simp[Op.operands])];exact hy)).1
 obtain⟨hz1,hz2⟩:=hz.ok;obtain⟨inf,q1,q2⟩:=Option.map_eq_some_iff.1 hz1;simp only[Prod.mk.injEq] at q2;obtain⟨q3,q4,q5⟩:=q2;have h8:((bytes*m:Nat):Int)≤281474976710656:=oM;rw[Int.natCast_mul] at h8;have hr:=run_make (P:=P) w T E inf z hT.ok.1 q1 q3 kl kc m m oM (Int.le_refl _) (by rw[q5];exact h8) oM
 rw[q4,Int.toNat_natCast,Nat.mul_one,dZx z hz2] at hr;unfold Oper.wp;have hrun:(execOp a.eval ⟨some d,.makeSlice T x y,ty,pos,after,guard⟩).run P w= .ok (.value (.slice (some ⟨w.heap.size,0,none⟩) m m)) (w.alloc (.cells (List.replicate m z).toArray E)):=by
  simp only[execOp,e1,e2,Sem.run_bind,hr,Result.andThen_ok,Sem.run_pure]
 rw[hrun];refine⟨_,h,upd β d w.heap.size,rfl,hi.alloc d hd hn' (eZm hz2 m) E,Le.refl _,fun j hj=>?_,?_,?_⟩
 ·exact aV (by rintro rfl;exact hj hn')
 ·exact⟨m,by rw[cK],Nat.le_refl _,by unfold maxLen;omega⟩
 ·show aB ((d,_)::bx') d≠none;rw[aC,if_pos rfl];simp
end
def cZ6(h:GH)(B:Nat)(vs:List Value):GH:=fun b o=>if b=B then vs[o]? else h b o
theorem mB{h:GH}{B o:Nat}{vs:List Value}:cZ6 h B vs B o=vs[o]? :=by unfold cZ6;rw[if_pos rfl]
theorem jZ{h:GH}{B b o:Nat}{vs:List Value}(hb:b≠B):cZ6 h B vs b o=h b o:=by unfold cZ6;rw[if_neg hb]
theorem cZ5{h:GH}{B:Nat}{vs:List Value}(hn:∀o,h B o=none):Le h (cZ6 h B vs):=fun b o v e=>by
 have:b≠B:=by rintro rfl;rw[hn o] at e;cases e
 rw[jZ this];exact e
theorem Inv.allocC{En:Ev}{w0:World}{h0:GH}{c:Cx}{h:GH}{β:Nat→Nat}{bx:Bx}{w:World}(hi:Inv En w0 h0 c h β bx w)(vs:List Value)(T:TypeId):
  Inv En w0 h0 c (cZ6 h w.heap.size vs) β bx (w.alloc (.cells vs.toArray T))∧Le h (cZ6 h w.heap.size vs):=by
 have hn:∀o,h w.heap.size o=none:=fun o=>by
  cases hh:h w.heap.size o with
  |none=>rfl
  |some v=>exact absurd (hi.holds.lt hh) (Nat.lt_irrefl _)
 have hle:=cZ5 (vs:=vs) hn;refine⟨⟨hi.env,fun b o v e=>?_,hi.le0.trans hle,fun b o v e e0=>?_,hi.below.below ((Below.refl _ _).alloc (Nat.le_refl _) _),hi.dis,hi.pin,fun i ps hp hps=>?_,hi.inj⟩,hle⟩
 ·by_cases hb:b=w.heap.size
  ·subst hb
   rw[mB] at e;rw[cell_of_row _ _ o _ T _ (heap_alloc_new w _)];simpa using e
  ·rw[jZ hb] at e
   rw[World.cell?_of_block (w:=w) (a:=⟨b,o,none⟩) (Below.heap_alloc w _ b (hi.holds.lt e))];exact hi.holds b o v e
 ·by_cases hb:b=w.heap.size
  ·subst hb;exact hi.below.size
  ·rw[jZ hb] at e;exact hi.fresh b o v e e0
 ·obtain⟨g1,g2,us,rs,T',g3,g4,g5,g6⟩:=hi.box i ps hp hps
  have hne:β i≠w.heap.size:=by have:=dB g3;omega
  exact⟨g1,fun o=>by rw[jZ hne];exact g2 o,us,rs,T',by rw[Below.heap_alloc w _ _ (dB g3)];exact g3,g4.mono hle,g5,g6⟩
section
variable{P:Program}{En:Ev}{n:Nat}{sl:Sl}{bx:Bx}{dst:Option Tmp}{ty:TypeId}{pos:String}{after:Array Edge}{guard:Option (Nat×Bool)}
def bZV(sl:Sl):List (Nat×Operand)→Nat→List Nat→Prop
 |[],_,[]=>True
 |x::xs,k,y::ys=>x.1=k∧osd sl x.2=some (.one (lb y))∧bZV sl xs (k+1) ys
 |_,_,_=>False
theorem yU{ρ:Operand→Value}{h:GH}{β:Nat→Nat}{bx':Bx}:∀{xs:List (Nat×Operand)} {k:Nat} {ys:List Nat} {pre:List Value} {rest:List Value},bZV sl xs k ys→(∀x∈xs,∀s,osd sl x.2=some s→s.ok h β (ρ x.2)∧s.live bx')→pre.length=k→rest.length=ys.length→
  Instr.fill (fun i=>some (i*1,1)) (pre++rest).toArray (xs.map fun x=>(x.1,ρ x.2))=some (pre++ys.map fun(y:Nat)=>Value.int .u32 (y:Int)).toArray
 |[],_,[],pre,rest,_,_,_,hl=>by have:rest=[]:=List.length_eq_zero_iff.1 hl;subst this;simp[Instr.fill]
 |x::xs,k,y::ys,pre,rest,⟨e1,e2,e3⟩,H,hp,hl=>by
  have hv:ρ x.2= .int .u32 (y:Int):=(H x (by simp) _ e2).1
  cases rest with
  |nil=>simp at hl
  |cons r rest=>
   have hcells:(ρ x.2).cells= #[Value.int .u32 (y:Int)]:=by rw[hv];rfl
   subst e1;simp only[List.map_cons,Instr.fill,hcells];rw[if_neg (by simp;omega)]
   have hset:(#[Value.int .u32 (y:Int)].zipIdx.foldl (fun cs x_1=>cs.setIfInBounds (x.1*1+x_1.2) x_1.1) (pre++r::rest).toArray)=((pre++[Value.int .u32 (y:Int)])++rest).toArray:=by
    simp[←hp]
   rw[hset,yU e3 (fun z hz=>H z (by simp[hz])) (by simp[hp]) (by simpa using hl)]
   simp
 |[],_,_::_,_,_,h,_,_,_=>h.elim
 |_::_,_,[],_,_,h,_,_,_=>h.elim
theorem aZ9{T E:TypeId}{xs:List (Nat×Operand)}{len bytes:Nat}{l:List Nat}[hT:CElem P T E 1][hz:CZero1 P E (.int .u32 0) bytes](hp:bZV sl xs 0 l)(hl:Nat.beq l.length len=true)(hm:Nat.ble len 1000=true)(hpos:Nat.blt 0 len=true)(hlm:Lm l):
  RT P En n ⟨dst,.buildSlice T len xs.toArray,ty,pos,after,guard⟩ sl bx ⟨.one (mag l),[],[]⟩:=by
 intro sl' bx' h1 _ _ w0 h0 c h β a w Q hi hs;have hl:=Nat.eq_of_beq_eq_true hl;subst hl;have hm:=Nat.le_of_ble_eq_true hm;have hpos:0<l.length:=Nat.le_of_ble_eq_true hpos;obtain⟨hz1,hz2⟩:=hz.ok;obtain⟨inf,q1,q2⟩:=Option.map_eq_some_iff.1 hz1;simp only[Prod.mk.injEq] at q2;obtain⟨q3,q4,q5⟩:=q2;have hfill:=yU (ρ:=a.eval) (h:=h) (β:=β) (bx':=bx') (pre:=[]) (rest:=List.replicate l.length (.int .u32 0)) hp (fun x hx s hxs=>cH hs (by rw[h1 x.2 (by simp[Op.operands];exact⟨x.1,hx⟩)];exact hxs)) rfl (by simp)
 simp only[List.nil_append] at hfill;obtain⟨hinv,hle⟩:=hi.allocC (l.map fun(y:Nat)=>Value.int .u32 (y:Int)) E;have hrun:(execOp a.eval ⟨dst,.buildSlice T l.length xs.toArray,ty,pos,after,guard⟩).run P w= .ok (.value (.slice (some ⟨w.heap.size,0,none⟩) l.length l.length)) (w.alloc (.cells (l.map fun(y:Nat)=>Value.int .u32 (y:Int)).toArray E)):=by
  have hmap:(xs.toArray.map fun x=>(x.1,a.eval x.2)).toList=xs.map fun x=>(x.1,a.eval x.2):=by simp
  have hmade:∀k,(Array.range k).map ((#[Value.int .u32 0]:Array Value)[· %(#[Value.int .u32 0]:Array Value).size]!)=(List.replicate k (.int .u32 0)).toArray:=fun k=>by
   have:=dZx (.int .u32 0) rfl k;exact this
  have hlim:¬(l.length*1>2^24):=oM;have h0:¬l.length*1=0:=oM;simp only[execOp,Instr.buildSlice,Sem.run_bind,run_underlying hT.ok.1,Result.andThen_ok,sizeOf,run_typeInfo _ q1,q4,if_neg hlim,if_neg h0,Sem.run_pure,zeroValue,q3,Value.cells];rw[hmap,Nat.mul_one,hmade,hfill];rfl
 unfold Oper.wp;rw[hrun];refine⟨_,_,β,rfl,hinv,hle,fun _ _=>rfl,⟨⟨some ⟨w.heap.size,0,none⟩,l.length,rfl,Nat.le_refl _,⟨by unfold maxLen;omega,fun h=>by cases h⟩,fun _=>⟨w.heap.size,0,rfl,fun j x hx=>?_⟩⟩,hlm⟩,trivial⟩
 rw[Nat.zero_add,mB];simp[hx]
end
end
section
open Go.RowKit Limb
def eZj(ps:List Pd)(o len cap:Nat):Pd:=⟨fun h v=>∃B vs cap',v= .slice (some ⟨B,o,none⟩) len cap'∧(cap≤cap'∧cap'≤maxLen)∧All2 h ps vs∧∀j u,vs[j]? =some u→h B j=some u,
 fun _ _ _ hl ⟨B,vs,cap',h1,h0,h2,h3⟩=>⟨B,vs,cap',h1,h0,h2.mono hl,fun j u hu=>hl _ _ _ (h3 j u hu)⟩⟩
def slc(k:Nat)(ps:List Pd)(n:Nat):Pd:=⟨fun h v=>∃a cap,v= .slice a n cap∧n≤cap∧cap≤maxLen∧(a=none→cap=0)∧ps.length=n*k∧(ps≠[]→∃b off vs,a=some ⟨b,off,none⟩∧All2 h ps vs∧∀j u,vs[j]? =some u→h b (off+j)=some u),
 fun _ _ _ hl ⟨a,cap,h1,h2,h3,h4,h5,h6⟩=>⟨a,cap,h1,h2,h3,h4,h5,fun hn=>let ⟨b,off,vs,e,ha,hc⟩:=h6 hn;⟨b,off,vs,e,ha.mono hl,fun j u hu=>hl _ _ _ (hc j u hu)⟩⟩⟩
instance(k:Nat)(ps:List Pd)(n:Nat):C1 (slc k ps n):=⟨fun _ _ ⟨_,_,h,_⟩=>by rw[h];rfl⟩
instance(k:Nat)(ps:List Pd)(n:Nat):CLen (slc k ps n) n:=⟨fun _ _ ⟨a,cap,h,_⟩=>⟨a,cap,h⟩⟩
def pubS(s:Sl)(bx:Bx)(b:Nat)(ps:List Pd):Sl→Prop
 |[]=>True
 |(t,sd)::l=>(((∃sd',aB s t=some sd'∧SLe sd' sd)∧sd.live bx)∨(∃o len cap p,aB s t=some (.own b o len cap)∧sd= .one p∧PLe (eZj ps o len cap) p)∨(∃k len p,aB s t=some (.app b k len)∧sd= .one p∧ps.length=len*k∧PLe (slc k ps len) p)∨(∃o p,aB s t=some (.ptr b o)∧sd= .one p∧PLe (cpR (ps.drop o)) p))∧pubS s bx b ps l
theorem dZh{s:Sl}{bx:Bx}{b:Nat}{ps:List Pd}:∀{l:Sl},pubS s bx b ps l→∀{t:Nat} {sd:SD},aB l t=some sd→
  (((∃sd',aB s t=some sd'∧SLe sd' sd)∧sd.live bx)∨(∃o len cap p,aB s t=some (.own b o len cap)∧sd= .one p∧PLe (eZj ps o len cap) p)∨(∃k len p,aB s t=some (.app b k len)∧sd= .one p∧ps.length=len*k∧PLe (slc k ps len) p)∨(∃o p,aB s t=some (.ptr b o)∧sd= .one p∧PLe (cpR (ps.drop o)) p))
 |[],_,_,_,h=>by cases h
 |(k,x)::l,⟨h1,h3⟩,t,sd,h=>by
  rw[aC] at h;split at h
  ·rename_i e;subst e;cases h;exact h1
  ·exact dZh h3 h
theorem Inv.pubG{En:Ev}{w0:World}{h0:GH}{c:Cx}{h:GH}{β:Nat→Nat}{bx bx':Bx}{w:World}(hi:Inv En w0 h0 c h β bx w)(b:Nat){ps:List Pd}(hb0:b<1000)(hb:aB bx b=some ps)(h2:∀i qs,aB bx' i=some qs→(∃ps',aB bx i=some ps'∧PsLe ps' qs)∨qs=[])(h3:∀qs,aB bx' b=some qs→qs=[])(hk:LKeep bx bx'):
  ∃h' vs,Inv En w0 h0 c h' β bx' w∧Le h h'∧All2 h' ps vs∧pB b β bx vs∧∀j u,(tI b β vs)[j]? =some u→h' (β b) j=some u:=by
 have hne:∀i qs,aB bx' i=some qs→qs≠[]→∃ps',aB bx i=some ps'∧ps'≠[]∧PsLe ps' qs:=fun i qs hp hps=>by
  rcases h2 i qs hp with⟨ps',g1,g2⟩|rfl
  ·exact⟨ps',g1,by rintro rfl;exact hps g2.nil,g2⟩
  ·exact absurd rfl hps
 have hinj:∀i j qs rs,aB bx' i=some qs→qs≠[]→aB bx' j=some rs→rs≠[]→β i=β j→i=j:=fun i j qs rs a1 a2 b1 b2=>by
  obtain⟨ps',g1,g3,_⟩:=hne i qs a1 a2;obtain⟨qs',k1,k3,_⟩:=hne j rs b1 b2;exact hi.inj i j _ _ g1 g3 k1 k3
 by_cases hps:ps=[]
 ·subst hps
  refine⟨h,[],⟨hi.env,hi.holds,hi.le0,hi.fresh,hi.below,hi.dis,hi.pin,fun i qs hq hqs=>?_,hinj⟩,Le.refl _,trivial,fun _ v hv=>(by cases hv),fun j u hu=>by unfold tI at hu;cases hl:lk b<;>simp[hl] at hu⟩
  obtain⟨ps',g1,g3,g2⟩:=hne i qs hq hqs;obtain⟨q1,q2,vs,rs,T,q3,q4,q5,q6⟩:=hi.box i ps' g1 g3;obtain⟨v1,v2,e,hv⟩:=g2.all q4;have e2:tI i β vs=tI i β v1++tI i β v2:=by rw[e];unfold tI;cases lk i<;>simp
  exact⟨q1,q2,v1,tI i β v2++rs,T,by rw[←List.append_assoc,←e2];exact q3,hv,fun hg=>by rw[←q5 hg,e];simp[eZ5],hk.refs hq hv (fun v hv=>by rw[e];exact List.mem_append_left _ hv) q6⟩
 obtain⟨q1,q2,vs,rest,T,q3,q4,q5,q6⟩:=hi.box b ps hb hps;have hle:=cZ5 (vs:=tI b β vs) q2;refine⟨cZ6 h (β b) (tI b β vs),vs,⟨hi.env,fun b' o v e=>?_,hi.le0.trans hle,fun b' o v e e0=>?_,hi.below,hi.dis,hi.pin,fun i qs hq hqs=>?_,hinj⟩,hle,q4.mono hle,q6,fun j u hu=>by rw[mB];exact hu⟩
 ·by_cases hq:b'=β b
  ·subst hq
   rw[mB] at e;rw[cell_of_row _ _ o _ T _ q3];have hlt:=(List.getElem?_eq_some_iff.1 e).1;simpa [List.getElem?_append_left hlt] using e
  ·rw[jZ hq] at e
   exact hi.holds b' o v e
 ·by_cases hq:b'=β b
  ·subst hq;exact q1.1 hb0
  ·rw[jZ hq] at e;exact hi.fresh b' o v e e0
 ·obtain⟨ps',g1,g3,g2⟩:=hne i qs hq hqs
  obtain⟨r1,r2,us,rs,T',r3,r4,r5,r6⟩:=hi.box i ps' g1 g3;have hn:β i≠β b:=fun e=>by
   have:=hi.inj i b _ _ g1 g3 hb hps e;subst this;exact hqs (h3 _ hq)
  obtain⟨v1,v2,e,hv⟩:=g2.all r4;have e2:tI i β us=tI i β v1++tI i β v2:=by rw[e];unfold tI;cases lk i<;>simp
  exact⟨r1,fun o=>by rw[jZ hn];exact r2 o,v1,tI i β v2++rs,T',by rw[←List.append_assoc,←e2];exact r3,hv.mono hle,fun hg=>by rw[←r5 hg,e];simp[eZ5],hk.refs hq hv (fun v hv=>by rw[e];exact List.mem_append_left _ hv) r6⟩
theorem Inv.pub{En:Ev}{w0:World}{h0:GH}{c:Cx}{h:GH}{β:Nat→Nat}{bx bx':Bx}{w:World}(hi:Inv En w0 h0 c h β bx w)(b:Nat){ps:List Pd}(hb0:b<1000)(hb:aB bx b=some ps)(h2:subBx bx bx')(h3:aB bx' b=none)(hk:LKeep bx bx')(hlb:lk b=false):
  ∃h' vs,Inv En w0 h0 c h' β bx' w∧Le h h'∧All2 h' ps vs∧∀j u,vs[j]? =some u→h' (β b) j=some u:=by
 obtain⟨h',vs,g1,g2,g3,_,g5⟩:=hi.pubG b hb0 hb (fun i qs hq=>lP h2 hq) (fun qs hq=>by rw[h3] at hq;cases hq) hk
 rw[dW hlb] at g5;exact⟨h',vs,g1,g2,g3,g5⟩
theorem Sub.pub{σ τ:St}(b:Nat){ps:List Pd}(hb0:Nat.blt b 1000=true)(hb:aB σ.bx b=some ps)(h1:pubS σ.sl τ.bx b ps τ.sl)(h2:subBx σ.bx τ.bx)(h3:aB τ.bx b=none)(h4:LKeep σ.bx τ.bx:=by exact jK rfl)(h5:lk b=false:=by rfl):Sub σ τ:=by
 rintro En n w0 h0 c a w ⟨h,β,hi,hs⟩;have hb0:b<1000:=Nat.le_of_ble_eq_true hb0;obtain⟨h',vs,hi',hle,hall,hcell⟩:=hi.pub b hb0 hb h2 h3 h4 h5;refine⟨h',β,hi',hs.defers,hs.size,fun t sd ht=>?_⟩;rcases dZh h1 ht with⟨⟨sd',g1,g2⟩,g3⟩|⟨o,len,cap,p,g1,rfl,g2⟩|⟨k,len,p,g1,rfl,gl,g2⟩|⟨o,p,g1,rfl,g2⟩
 ·obtain⟨v,r1,r2,_⟩:=hs.slot t sd' g1
  exact⟨v,r1,SD.ok_mono (g2.ok r2) g3 hle (fun _ _=>rfl),g3⟩
 ·obtain⟨v,r1,r2,_⟩:=hs.slot t _ g1
  obtain⟨cap',r2,hc⟩:∃cap',v= .slice (some ⟨β b,o,none⟩) len cap'∧cap≤cap'∧cap'≤maxLen:=r2;exact⟨v,r1,g2 _ _ ⟨β b,vs,cap',r2,hc,hall,hcell⟩,trivial⟩
 ·obtain⟨v,r1,r2,_⟩:=hs.slot t _ g1
  refine⟨v,r1,g2 _ _ ?_,trivial⟩;rcases r2 with⟨rfl,rfl⟩|⟨cap,rfl,c1,c2,c3,c4⟩
  ·exact⟨none,0,rfl,Nat.le_refl _,Nat.zero_le _,fun _=>rfl,gl,fun hn=>absurd (List.length_eq_zero_iff.1 (by rw[gl];simp)) hn⟩
  ·exact⟨_,cap,rfl,c2,c3,(fun h=>by cases h),gl,fun _=>⟨β b,0,vs,rfl,hall,fun j u hu=>by rw[Nat.zero_add];exact hcell j u hu⟩⟩
 ·obtain⟨v,r1,r2,_⟩:=hs.slot t _ g1
  refine⟨v,r1,g2 _ _ ⟨β b,o,vs.drop o,r2,hall.drop o,fun j u hu=>hcell _ _ (by simpa using hu)⟩,trivial⟩
def SD.avoid(b:Nat):SD→Prop
 | .one _=>True
 | .ptr i _=>i≠b∧i≠b+250
 | .own i _ _ _=>i≠b∧i≠b+250
 | .app i _ _=>i≠b∧i≠b+250∧i+250≠b∧i+250≠b+250
 | .clo _ bs=>∀x∈bs,x.1≠b∧x.1≠b+250
 | .pin i _=>i≠b∧i≠b+250
 | .gen g=>∀i∈g.bs,i≠b∧i≠b+250
def renS(s:Sl)(bx:Bx)(b d:Nat):Sl→Prop
 |[]=>True
 |(t,sd)::l=>(((∃sd',aB s t=some sd'∧SLe sd' sd)∧sd.live bx∧sd.avoid b)∨(∃k len,aB s t=some (.app d k len)∧(sd= .app b k len∨(0<len∧sd= .own b 0 len len))∧sd.live bx))∧renS s bx b d l
def renB(s:Bx)(b d:Nat):Bx→Prop
 |[]=>True
 |(i,ps)::l=>((i=b∧∃ps',aB s d=some ps'∧PsLe ps' ps)∨(i≠b∧((i≠b+250∧∃ps',aB s i=some ps'∧PsLe ps' ps)∨ps=[])))∧renB s b d l
theorem dZc{s:Sl}{bx:Bx}{b d:Nat}:∀{l:Sl},renS s bx b d l→∀{t:Nat} {sd:SD},aB l t=some sd→
  (((∃sd',aB s t=some sd'∧SLe sd' sd)∧sd.live bx∧sd.avoid b)∨(∃k len,aB s t=some (.app d k len)∧(sd= .app b k len∨(0<len∧sd= .own b 0 len len))∧sd.live bx))
 |[],_,_,_,h=>by cases h
 |(k,x)::l,⟨h1,h3⟩,t,sd,h=>by
  rw[aC] at h;split at h
  ·rename_i e;subst e;cases h;exact h1
  ·exact dZc h3 h
theorem dZd{s:Bx}{b d:Nat}:∀{l:Bx},renB s b d l→∀{t:Nat} {ps:List Pd},aB l t=some ps→
  ((t=b∧∃ps',aB s d=some ps'∧PsLe ps' ps)∨(t≠b∧((t≠b+250∧∃ps',aB s t=some ps'∧PsLe ps' ps)∨ps=[])))
 |[],_,_,_,h=>by cases h
 |(k,x)::l,⟨h1,h3⟩,t,sd,h=>by
  rw[aC] at h;split at h
  ·rename_i e;subst e;cases h;exact h1
  ·exact dZd h3 h
theorem Sub.ren{σ τ:St}(b d:Nat)(hd:(Nat.ble 500 d&&Nat.blt d 700&&Nat.blt b 700&& !lk b)=true)(h1:renS σ.sl τ.bx b d τ.sl)(h2:renB σ.bx b d τ.bx)(h3:aB τ.bx d=none)(h4:τ.bx.all (fun x=> !lk x.1)=true:=by rfl):Sub σ τ:=by
 rintro En n w0 h0 c a w ⟨h,β,hi,hs⟩;rw[Bool.and_eq_true,Bool.and_eq_true,Bool.and_eq_true] at hd;obtain⟨⟨⟨hd1,hd2⟩,hb2⟩,hlb⟩:=hd;have hlb:lk b=false:=by simpa using hlb
 have hd1:=Nat.le_of_ble_eq_true hd1;have hd2':d<700:=Nat.le_of_ble_eq_true hd2;have hb2':b<700:=Nat.le_of_ble_eq_true hb2;have hd2:d<750:=oM;have hb2:b<750:=oM;have hld:lk d=false:=by
  unfold lk;rw[show Nat.blt d 500=false by cases e:Nat.blt d 500;rfl;exact absurd (Nat.le_of_ble_eq_true e) oM,show Nat.ble 700 d=false by cases e:Nat.ble 700 d;rfl;exact absurd (Nat.le_of_ble_eq_true e) oM,show Nat.ble 1750 d=false by cases e:Nat.ble 1750 d;rfl;exact absurd (Nat.le_of_ble_eq_true e) oM]
  simp
 have nl:∀i ps,aB τ.bx i=some ps→lk i=false:=fun i ps hp=>by
  have:=List.all_eq_true.1 h4 _ (kS hp);simpa using this
 let γ:Nat→Nat:=fun i=>if i=b then β d else if i=b+250 then β (d+250) else β i
 have g0:γ b=β d:=if_pos rfl;have g1:γ (b+250)=β (d+250):=by show(if _ then _ else _)=_;rw[if_neg oM,if_pos rfl]
 have g2:∀i,i≠b→i≠b+250→γ i=β i:=fun i h1 h2=>by show(if _ then _ else _)=_;rw[if_neg h1,if_neg h2]
 have src:∀i ps,aB τ.bx i=some ps→ps≠[]→∃j ps',aB σ.bx j=some ps'∧ps'≠[]∧PsLe ps' ps∧((i=b∧j=d)∨(i≠b∧i≠b+250∧j=i∧i≠d)):=fun i ps hp hps=>by
  rcases dZd h2 hp with⟨rfl,ps',q1,q2⟩|⟨hne,⟨hne',ps',q1,q2⟩|rfl⟩
  ·exact⟨d,ps',q1,by rintro rfl;exact hps q2.nil,q2,.inl ⟨rfl,rfl⟩⟩
  ·exact⟨i,ps',q1,by rintro rfl;exact hps q2.nil,q2,.inr ⟨hne,hne',rfl,by rintro rfl;rw[h3] at hp;cases hp⟩⟩
  ·exact absurd rfl hps
 refine⟨h,γ,⟨hi.env,hi.holds,hi.le0,hi.fresh,hi.below,hi.dis,fun i hge=>?_,fun i ps hp hps=>?_,fun i j ps qs hp hps hq hqs e=>?_⟩,hs.defers,hs.size,fun t sd ht=>?_⟩
 ·rw[g2 i oM oM];exact hi.pin i hge
 ·obtain⟨j,ps',q1,q2,q3,q4⟩:=src i ps hp hps
  have hlj:lk j=false:=by
   rcases q4 with⟨_,rfl⟩|⟨_,_,rfl,_⟩
   ·exact hld
   ·exact nl _ _ hp
  obtain⟨r1,r2,us,rs,T',r3,r4,r5⟩:=hi.box0 j ps' q1 q2 hlj;have hli:=nl i ps hp;obtain⟨v1,v2,e,hv⟩:=q3.all r4;rcases q4 with⟨rfl,rfl⟩|⟨n1,n2,rfl,n3⟩
  ·rw[g0]
   exact⟨⟨fun _=>r1.1 oM,fun h=>absurd h oM⟩,r2,v1,v2++rs,T',by rw[dW hli,←List.append_assoc,←e];exact r3,hv,fun _=>by rw[←List.append_assoc,←e,g1];exact r5 ⟨hd1,hd2⟩,cZ hli _ _ _⟩
  ·rw[g2 _ n1 n2]
   exact⟨r1,r2,v1,v2++rs,T',by rw[dW hli,←List.append_assoc,←e];exact r3,hv,fun hg=>by rw[←List.append_assoc,←e,g2 _ (by have:=hg.1;omega) oM];exact r5 hg,cZ hli _ _ _⟩
 ·obtain⟨i',ps',q1,q2,_,q4⟩:=src i ps hp hps
  obtain⟨j',qs',k1,k2,_,k4⟩:=src j qs hq hqs;rcases q4 with⟨rfl,rfl⟩|⟨n1,n2,rfl,n3⟩<;>rcases k4 with⟨rfl,rfl⟩|⟨m1,m2,rfl,m3⟩
  ·rfl
  ·rw[g0,g2 _ m1 m2] at e
   exact absurd (hi.inj _ _ _ _ q1 q2 k1 k2 e) (fun h=>m3 h.symm)
  ·rw[g0,g2 _ n1 n2] at e
   exact absurd (hi.inj _ _ _ _ q1 q2 k1 k2 e) n3
  ·rw[g2 _ n1 n2,g2 _ m1 m2] at e
   exact hi.inj _ _ _ _ q1 q2 k1 k2 e
 ·rcases dZc h1 ht with⟨⟨sd',q1,q2⟩,q3,q4⟩|⟨k,len,q1,q2,q3⟩
  ·obtain⟨v,r1,r2,_⟩:=hs.slot t sd' q1
   refine⟨v,r1,?_,q3⟩;have r2:=q2.ok r2;cases sd with
   |one p=>exact r2
   |ptr i o=>show _=_;rw[g2 i q4.1 q4.2];exact r2
   |own i o l k=>show ∃cap',_∧_;rw[g2 i q4.1 q4.2];exact r2
   |app i k l=>show(_∧_)∨_;rw[g2 i q4.1 q4.2.1,g2 (i+250) q4.2.2.1 q4.2.2.2];exact r2
   |clo f bs=>
    have:bs.map (eZO γ)=bs.map (eZO β):=List.map_congr_left fun x hx=>by unfold eZO;rw[g2 x.1 (q4 x hx).1 (q4 x hx).2]
    show v=_;rw[this];exact r2
   |pin i x=>show γ i=x;rw[g2 i q4.1 q4.2];exact r2
   |gen g=>exact g.mono _ _ _ _ _ (Le.refl _) (fun i hi=>g2 i (q4 i hi).1 (q4 i hi).2) r2
  ·obtain⟨v,r1,r2,_⟩:=hs.slot t _ q1
   rcases q2 with rfl|⟨hpos,rfl⟩
   ·refine⟨v,r1,?_,q3⟩
    show(_∧_)∨_
    rw[g0,g1];exact r2
   ·refine⟨v,r1,?_,q3⟩
    rcases r2 with⟨_,r2⟩|⟨cap,r2,_,r3,r4,_⟩
    ·omega
    ·exact⟨cap,by rw[g0];exact r2,r3,r4⟩
theorem Sub.trans{σ τ υ:St}(h:Sub σ τ)(k:Sub τ υ):Sub σ υ:=fun En n w0 h0 c a w hg=>k En n w0 h0 c a w (h En n w0 h0 c a w hg)
theorem gZF{h:GH}:∀{l:List Nat} {vs:List Value},All2 h (l.map lb) vs→vs=l.map fun(y:Nat)=>Value.int .u32 (y:Int)
 |[],[],_=>rfl
 |x::l,v::vs,⟨a,_,c⟩=>by have:v= .int .u32 (x:Int):=a;rw[this,gZF c];rfl
 |[],_::_,h=>h.elim
 |_::_,[],h=>h.elim
theorem nZb{l:List Nat}{o len cap:Nat}(hl:o+len≤l.length)(hc:len≤cap)(hlm:Lm l){m:List Nat}(he:(l.drop o).take len=m):PLe (eZj (l.map lb) o len cap) (mag m):=by
 subst he;rintro h v ⟨B,vs,cap',h1,⟨hcc,hm⟩,h2,h3⟩;have hlen:((l.drop o).take len).length=len:=by simp;omega
 rw[gZF h2] at h3;refine⟨⟨some ⟨B,o,none⟩,cap',by rw[hlen];exact h1,oM,⟨hm,fun h=>by cases h⟩,fun _=>⟨B,o,rfl,fun j x hx=>?_⟩⟩,(hlm.drop o).take len⟩
 refine h3 (o+j) _ ?_;rw[List.getElem?_take] at hx;split at hx
 ·rw[List.getElem?_drop] at hx;rw[List.getElem?_map,hx];rfl
 ·cases hx
theorem fI{l:List Nat}{cap:Nat}(hc:l.length≤cap)(hlm:Lm l):PLe (eZj (l.map lb) 0 l.length cap) (mag l):=nZb oM hc hlm (by simp)
structure BoxesOK(h:GH)(β:Nat→Nat)(bx:Bx)(w:World):Prop where
 box:∀i ps,aB bx i=some ps→ps≠[]→(∀o,h (β i) o=none)∧∃(vs rest:List Value) (T:TypeId),w.heap[β i]? =some (.cells (tI i β vs++rest).toArray T (0,0))∧All2 h ps vs∧pB i β bx vs
 inj:∀i j ps qs,aB bx i=some ps→ps≠[]→aB bx j=some qs→qs≠[]→β i=β j→i=j
def AllS(h:GH)(β:Nat→Nat)(bx:Bx):List SD→List Value→Prop
 |[],[]=>True
 |s::ss,v::vs=>s.ok h β v∧s.live bx∧AllS h β bx ss vs
 |_,_=>False
theorem AllS.length{h:GH}{β:Nat→Nat}{bx:Bx}:∀{ss:List SD} {vs:List Value},AllS h β bx ss vs→ss.length=vs.length
 |[],[],_=>rfl
 |_::_,_::_,⟨_,_,c⟩=>by simp[AllS.length c]
 |[],_::_,h=>h.elim
 |_::_,[],h=>h.elim
def boxM(β:Nat→Nat)(bx:Bx):Nat→Prop:=fun k=>∃i,(∃ps,aB bx i=some ps∧ps≠[])∧k=β i
def oZe(h:GH)(β:Nat→Nat)(bx:Bx)(w:World)(r:SD)(bx':Bx)(e:Ending)(w':World):Prop:=
 ∃v h' β',e= .returned v∧Le h h'∧Holds h' w'∧(∀b o u,h' b o=some u→h b o=none→w.heap.size≤b)∧BelowM (boxM β bx) w w'∧BoxesOK h' β' bx' w'∧
  (∀i,1000≤i→β' i=β i)∧(∀i ps,aB bx' i=some ps→ps≠[]→(i<1000→w.heap.size≤β' i)∧(1000≤i→∃qs,aB bx i=some qs∧qs≠[]))∧r.ok h' β' v∧r.live bx'
def FnG(P:Program)(En:Ev)(f:FuncId)(az:List SD)(bx:Bx)(r:SD)(bx':Bx):Prop:=
 ∀(h:GH) (β:Nat→Nat) (w:World) (vs:List Value),En.e w→Holds h w→BoxesOK h β bx w→(∀i ps,aB bx i=some ps→ps≠[]→1000≤i∧¬En.S (β i))→AllS h β bx az vs→Calls P f vs.toArray w (oZe h β bx w r bx')
def nZc:List SD→Nat→Sl
 |[],_=>[]
 |p::ps,k=>(k,p)::nZc ps (k+1)
theorem eZk{h:GH}{β:Nat→Nat}{bx:Bx}:∀{ps:List SD} {vs:List Value} {k t:Nat} {sd:SD},AllS h β bx ps vs→aB (nZc ps k) t=some sd→∃v,k≤t∧vs[t-k]? =some v∧sd.ok h β v∧sd.live bx
 |[],_,_,_,_,_,h=>by cases h
 |p::ps,v::vs,k,t,sd,⟨a,a',b⟩,h=>by
  unfold nZc at h;rw[aC] at h;split at h
  ·rename_i e;subst e;cases h;exact⟨v,Nat.le_refl _,by simp,a,a'⟩
  ·obtain⟨u,h1,h2,h3⟩:=eZk b h
   refine⟨u,oM,?_,h3⟩;rw[show t-k=(t-(k+1))+1 by omega]
   simpa using h2
 |_::_,[],_,_,_,h,_=>h.elim
def aZq(P:Program)(fn:Func)(σ:St)(r:SD)(bx':Bx):Prop:=
 (subBx σ.bx bx'∧LKeep σ.bx bx')∧∀En n w0 h0 c h β a w,Inv En w0 h0 c h β σ.bx w→Slots n h β σ.sl σ.bx a→∃v,(results fn a.tmps).run P w= .ok v w∧r.ok h β v∧r.live bx'
def kFnG(P:Program)(fn:Func)(r:SD)(bx':Bx):Exit→St→Prop
 | .normal,σ=>aZq P fn σ r bx'
 | .ret,σ=>aZq P fn σ r bx'
 | .exit _,_=>False
 | .goto _,_=>False
 | .panic _,_=>False
 | .outgrown,_=>False
theorem bL{P:Program}{En:Ev}{f:FuncId}{fn:Func}{co:Code}{n:Nat}{az:List SD}{bx:Bx}{r:SD}{bx':Bx}(hf:P.funcs[f]? =some fn)(hb:fn.body=some co)(hn:fn.ntmps=n)(hl:Nat.ble az.length n=true)
  (H:∀w0 h0 c,WpD P En n w0 h0 c co (kFnG P fn r bx') ⟨nZc az 0,bx⟩):FnG P En f az bx r bx':=by
 subst hn;intro h β w vs hen hh hbx hS hv;refine calls_of_wp hf hb ?_;have hle:vs.length≤fn.ntmps:=by rw[←hv.length];exact Nat.le_of_ble_eq_true hl
 refine H w h ⟨fun i=>∃ps,aB bx i=some ps∧ps≠[],β⟩ _ _ w ⟨h,β,⟨hen,hh,Le.refl _,fun b o v e e0=>(by rw[e] at e0;cases e0),BelowM.refl _ _,?_,fun _ _=>rfl,fun i ps hp hps=>?_,hbx.inj⟩,rfl,?_,fun t sd ht=>?_⟩ ?_
 ·rintro k ⟨i,⟨ps,hp,hps⟩,rfl⟩;exact(hS i ps hp hps).2
 ·obtain⟨g1,us,rs,T',g2,g3,g4⟩:=hbx.box i ps hp hps
  have:=(hS i ps hp hps).1;exact⟨⟨fun hlt=>absurd this oM,fun _=>⟨ps,hp,hps⟩⟩,g1,us,rs,T',g2,g3,fun hg=>absurd hg.2 oM,g4⟩
 ·simp;omega
 ·obtain⟨v,_,h2,h3,h4⟩:=eZk hv ht
  have h2':vs[t]? =some v:=by simpa using h2
  have hlt:=(List.getElem?_eq_some_iff.1 h2').1;refine⟨v,?_,h3,h4⟩;rw[Array.getElem?_append_left (by simpa using hlt)]
  simpa using h2'
 ·intro e τ a' w' hk hg
  have fin:aZq P fn τ r bx'→a'.defers=[]∧∃v,(results fn a'.tmps).run P w'= .ok v w'∧oZe h β bx w r bx' (.returned v) w':=fun hR=>by
   obtain⟨h',β',hi,hs⟩:=hg;obtain⟨⟨hsub,hkeep⟩,hR⟩:=hR;obtain⟨v,h1,h2,h3⟩:=hR _ _ _ _ _ _ _ _ _ hi hs;have hne:∀i ps,aB bx' i=some ps→ps≠[]→∃ps',aB τ.bx i=some ps'∧ps'≠[]∧PsLe ps' ps:=fun i ps hp hps=>by
    rcases lP hsub hp with⟨ps',g1,g2⟩|rfl
    ·exact⟨ps',g1,by rintro rfl;exact hps g2.nil,g2⟩
    ·exact absurd rfl hps
   refine⟨hs.defers,v,h1,v,h',β',rfl,hi.le0,hi.holds,hi.fresh,hi.below,⟨fun i ps hp hps=>?_,fun i j ps qs hp hps hq hqs=>?_⟩,hi.pin,fun i ps hp hps=>?_,h2,h3⟩
   ·obtain⟨ps',g1,g3,g2⟩:=hne i ps hp hps
    obtain⟨_,r2,us,rs,T',r3,r4,_,r6⟩:=hi.box i ps' g1 g3;obtain⟨v1,v2,e,hv⟩:=g2.all r4;have e2:tI i β' us=tI i β' v1++tI i β' v2:=by rw[e];unfold tI;cases lk i<;>simp
    exact⟨r2,v1,tI i β' v2++rs,T',by rw[←List.append_assoc,←e2];exact r3,hv,hkeep.refs hp hv (fun v hv=>by rw[e];exact List.mem_append_left _ hv) r6⟩
   ·obtain⟨ps',g1,g3,_⟩:=hne i ps hp hps
    obtain⟨qs',k1,k3,_⟩:=hne j qs hq hqs;exact hi.inj i j _ _ g1 g3 k1 k3
   ·obtain⟨ps',g1,g3,_⟩:=hne i ps hp hps
    exact(hi.box i ps' g1 g3).1
  cases e with
  |normal=>exact fin hk
  |ret=>exact fin hk
  |exit i=>exact hk.elim
  |goto i=>exact hk.elim
  |panic i=>exact hk.elim
  |outgrown=>exact hk.elim
theorem kC{P:Program}{fn:Func}{σ:St}{r:SD}{bx':Bx}{t:Nat}{sd:SD}(hf:fn.results= #[.tmp t])(h1:aB σ.sl t=some sd)(hr:SLe sd r)(hl:r.live bx')(hs:subBx σ.bx bx')(hk:LKeep σ.bx bx':=by exact jK rfl):aZq P fn σ r bx':=by
 refine⟨⟨hs,hk⟩,fun En n w0 h0 c h β a w hi hsl=>?_⟩;obtain⟨v,hv,ho,_⟩:=hsl.slot t sd h1;exact⟨v,by rw[fJ,hf];simp[rX,hv],hr.ok ho,hl⟩
theorem fZN{P:Program}{fn:Func}{σ:St}{bx':Bx}(hf:fn.results= #[])(hs:subBx σ.bx bx')(hk:LKeep σ.bx bx':=by exact jK rfl):aZq P fn σ (.one (ex (.tuple #[]))) bx':=
 ⟨⟨hs,hk⟩,fun _ _ _ _ _ _ _ _ _ _ _=>⟨.tuple #[],by rw[fJ,hf];simp,rfl,trivial⟩⟩
section
variable{P:Program}{En:Ev}{n:Nat}{sl:Sl}{bx:Bx}{dst:Option Tmp}{ty:TypeId}{pos:String}{after:Array Edge}{guard:Option (Nat×Bool)}
def argM(sl:Sl)(cb:Bx)(μ:Nat→Nat)(x:Operand):SD→Prop
 | .one p=>osd sl x=some (.one p)
 | .ptr i o=>osd sl x=some (.ptr (μ i) o)∧aB cb i≠none
 | .own i o l k=>osd sl x=some (.own (μ i) o l k)∧aB cb i≠none
 |_=>False
def zZ(sl:Sl)(cb:Bx)(μ:Nat→Nat):List Operand→List SD→Prop
 |[],[]=>True
 |x::xs,s::ss=>argM sl cb μ x s∧zZ sl cb μ xs ss
 |_,_=>False
def lF(bx:Bx)(μ:Nat→Nat):Bx→Prop
 |[]=>True
 |(i,ps)::l=>aB bx (μ i)=some ps∧lF bx μ l
theorem eL{bx:Bx}{μ:Nat→Nat}:∀{cb:Bx},lF bx μ cb→∀{i ps},aB cb i=some ps→aB bx (μ i)=some ps
 |[],_,_,_,h=>by cases h
 |(k,x)::l,⟨h1,h3⟩,t,sd,h=>by
  rw[aC] at h;split at h
  ·rename_i e;subst e;cases h;exact h1
  ·exact eL h3 h
def eqL:List Nat→List Nat→Bool
 |[],[]=>true
 |x::l,y::m=>Nat.beq x y&&eqL l m
 |_,_=>false
theorem cZr:∀{l m:List Nat},eqL l m=true→l=m
 |[],[],_=>rfl
 |x::l,y::m,h=>by
  simp only[eqL,Bool.and_eq_true] at h;rw[Nat.eq_of_beq_eq_true h.1,cZr h.2]
 |[],_::_,h=>by cases h
 |_::_,[],h=>by cases h
def yK:List Nat→Bool
 |[]=>true
 |x::l=>l.all (fun y=> !Nat.beq x y)&&yK l
def uH(μ:Nat→Nat)(ks ks':List Nat):Bool:=eqL ks ks'&&ks.all (fun k=>Nat.ble 1000 k&&(Nat.blt (μ k) 400||Nat.ble 1000 (μ k))&& !lk k&& !lk (μ k))&&yK (ks.map μ)
theorem oA{μ:Nat→Nat}:∀{ks:List Nat},yK (ks.map μ)=true→∀i∈ks,∀j∈ks,μ i=μ j→i=j
 |[],_,i,hi,_,_,_=>by cases hi
 |x::l,h,i,hi,j,hj,e=>by
  simp only[List.map_cons,yK,Bool.and_eq_true] at h;have hx:∀y∈l,μ x≠μ y:=fun y hy=>by
   have:=List.all_eq_true.1 h.1 (μ y) (List.mem_map.2 ⟨y,hy,rfl⟩);intro he;rw[he] at this;simp at this
  rcases List.mem_cons.1 hi with ei|hi2<;>rcases List.mem_cons.1 hj with ej|hj2
  ·rw[ei,ej]
  ·rw[ei] at e;exact absurd e (hx j hj2)
  ·rw[ej] at e;exact absurd e.symm (hx i hi2)
  ·exact oA h.2 i hi2 j hj2 e
theorem dA{bx:Bx}{i:Nat}(h:aB bx i≠none):i∈bx.map (·.1):=by
 by_cases hm:i∈bx.map (·.1)
 ·exact hm
 ·exact absurd (nF hm) h
theorem iV{bx:Bx}{i:Nat}(h:i∈bx.map (·.1)):aB bx i≠none:=by
 induction bx with
 |nil=>cases h
 |cons x l ih=>
  obtain⟨k,x⟩:=x;rw[aC];split
  ·simp
  ·rename_i hne
   refine ih ?_;simp only[List.map_cons,List.mem_cons] at h;rcases h with h|h
   ·exact absurd h.symm hne
   ·exact h
theorem yS{μ:Nat→Nat}:∀{cb:Bx} {j:Nat} {qs:List Pd},aB (cb.map fun x=>(μ x.1,x.2)) j=some qs→∃i,μ i=j∧aB cb i=some qs
 |[],_,_,h=>by cases h
 |(k,x)::l,j,qs,h=>by
  rw[List.map_cons,aC] at h;split at h
  ·rename_i e;cases h;exact⟨k,e,by rw[aC,if_pos rfl]⟩
  ·rename_i e
   obtain⟨i,h1,h2⟩:=yS h;exact⟨i,h1,by rw[aC,if_neg (by rintro rfl;exact e h1)];exact h2⟩
theorem gL{f:FuncId}(hb:Body P f)(vs:List Value)(w:World):(callFunc f vs.toArray).run P w= .ok (.enter f vs.toArray) w:=by
 obtain⟨fn,hfn,hbody,hname⟩:=hb;simp only[callFunc,Sem.run_bind,run_program,Result.andThen_ok,hfn,hname,hbody];simp
theorem fZs{w0:World}{h0:GH}{c:Cx}{h:GH}{β:Nat→Nat}{w:World}(hi:Inv En w0 h0 c h β bx w){f:FuncId}{az:List SD}{cb cb':Bx}{r:Pd}{μ:Nat→Nat}{vs:List Value}(hf:FnG P En f az cb (.one r) cb')(ha:AllS h (fun i=>β (μ i)) cb az vs)(hl:lF bx μ cb)(hk:uH μ (cb.map (·.1)) (cb'.map (·.1))=true):
  Calls P f vs.toArray w (fun e w'=>∃v h',e= .returned v∧Inv En w0 h0 c h' β ((cb'.map fun x=>(μ x.1,x.2))++bx) w'∧Le h h'∧r.p h' v):=by
 unfold uH at hk;rw[Bool.and_eq_true,Bool.and_eq_true] at hk;obtain⟨⟨k1,k2⟩,k3⟩:=hk;have k1:=cZr k1;have key':∀i,aB cb i≠none→(1000≤i∧(μ i<500∨1000≤μ i))∧lk i=false∧lk (μ i)=false:=fun i hi=>by
  have:=List.all_eq_true.1 k2 i (dA hi);rw[Bool.and_eq_true,Bool.and_eq_true,Bool.and_eq_true,Bool.or_eq_true] at this;obtain⟨⟨⟨t1,t2⟩,t3⟩,t4⟩:=this;refine⟨⟨Nat.le_of_ble_eq_true t1,t2.imp (fun h=>?_) (fun h=>Nat.le_of_ble_eq_true h)⟩,by simpa using t3,by simpa using t4⟩
  have:μ i<400:=Nat.le_of_ble_eq_true h;omega
 have key:∀i,aB cb i≠none→1000≤i∧(μ i<500∨1000≤μ i):=fun i hi=>(key' i hi).1;have minj:∀i j,aB cb i≠none→aB cb j≠none→μ i=μ j→i=j:=fun i j h1 h2=>oA k3 i (dA h1) j (dA h2);have hS:∀k,En.S k→k<w0.heap.size:=fun k hk=>En.lt _ hi.env k hk;have blk:∀i ps,aB cb i=some ps→ps≠[]→(w0.heap.size≤β (μ i)∨c.M (β (μ i))):=fun i ps hp hps=>by
  obtain⟨q1,_⟩:=hi.box (μ i) ps (eL hl hp) hps;rcases Nat.lt_or_ge (μ i) 1000 with hlt|hge
  ·exact .inl (q1.1 hlt)
  ·exact .inr ⟨μ i,q1.2 hge,hi.pin _ hge⟩
 refine Calls.mono (hf h _ w vs hi.envNow hi.holds ⟨fun i ps hp hps=>?_,fun i j ps qs hp hps hq hqs e=>?_⟩ (fun i ps hp hps=>⟨(key i (by rw[hp];simp)).1,fun hk=>?_⟩) ha) ?_
 ·obtain⟨_,q2,us,rs,T',q3,q4,_⟩:=hi.box0 (μ i) ps (eL hl hp) hps (key' i (by rw[hp];simp)).2.2
  have hli:=(key' i (by rw[hp];simp)).2.1
  exact⟨q2,us,rs,T',by rw[dW hli];exact q3,q4,cZ hli _ _ _⟩
 ·exact minj i j (by rw[hp];simp) (by rw[hq];simp) (hi.inj _ _ _ _ (eL hl hp) hps (eL hl hq) hqs e)
 ·rcases blk i ps hp hps with h|h
  ·have:=hS _ hk;omega
  ·exact hi.dis _ h hk
 ·rintro e w' ⟨v,h',β',rfl,g1,g2,g3,g4,g5,g6,g8,g7,_⟩
  have src:∀j qs,aB ((cb'.map fun x=>(μ x.1,x.2))++bx) j=some qs→qs≠[]→(∃i qs0,μ i=j∧aB cb' i=some qs∧aB cb i=some qs0∧qs0≠[]∧aB bx j=some qs0∧β' i=β j)∨(aB bx j=some qs∧∀i,aB cb i≠none→μ i≠j):=fun j qs hj hq=>by
   rw[cQ] at hj;cases hw:aB (cb'.map fun x=>(μ x.1,x.2)) j with
   |some qs'=>
    rw[hw] at hj;simp only[Option.some_or,Option.some.injEq] at hj;subst hj;obtain⟨i,rfl,h2⟩:=yS hw;have hcn:aB cb i≠none:=iV (by rw[k1];exact dA (by rw[h2];simp))
    have hge:=(key i hcn).1;obtain⟨qs0,e1,e2⟩:=(g8 i _ h2 hq).2 hge;exact .inl ⟨i,qs0,rfl,h2,e1,e2,eL hl e1,g6 i hge⟩
   |none=>
    rw[hw] at hj;refine .inr ⟨by simpa using hj,fun i hi' e=>?_⟩
    subst e;have:i∈cb'.map (·.1):=by rw[←k1];exact dA hi'
    obtain⟨y,hy,rfl⟩:=List.mem_map.1 this;exact iV (bx:=cb'.map fun x=>(μ x.1,x.2)) (List.mem_map.2 ⟨(μ y.1,y.2),List.mem_map.2 ⟨y,hy,rfl⟩,rfl⟩) hw
  have hblk:∀k,k<w.heap.size→(∀i ps,aB cb i=some ps→ps≠[]→k≠β (μ i))→w'.heap[k]? =w.heap[k]? :=fun k hk hne=>g4.block k hk (by rintro⟨i,⟨ps,h1,h2⟩,h3⟩;exact hne i ps h1 h2 h3)
  refine⟨v,h',rfl,⟨hi.env,g2,hi.le0.trans g1,fun b' o u e e0=>?_,⟨g4.os.trans hi.below.os,g4.tape.trans hi.below.tape,g4.output.trans hi.below.output,Nat.le_trans hi.below.size g4.size,fun k hk hM=>?_⟩,hi.dis,hi.pin,fun j qs hj hq=>?_,fun i j ps qs hp hps hq hqs=>?_⟩,g1,g7⟩
  ·cases he:h b' o with
   |none=>exact Nat.le_trans hi.below.size (g3 b' o u e he)
   |some u'=>exact hi.fresh b' o u' he e0
  ·rw[hblk k (Nat.lt_of_lt_of_le hk hi.below.size) ?_]
   ·exact hi.below.block k hk hM
   ·rintro i ps hp hps rfl
    rcases blk i ps hp hps with h|h
    ·omega
    ·exact hM h
  ·rcases src j qs hj hq with⟨i,qs0,rfl,e2,e3,e4,e5,e6⟩|⟨e1,e2⟩
   ·obtain⟨q1,_⟩:=hi.box (μ i) qs0 e5 e4
    obtain⟨r1,us,rs,T',r2,r3,_⟩:=g5.box i qs e2 hq;have hkk:=(key' i (by rw[e3];simp)).2
    rw[dW hkk.1] at r2;rw[e6] at r1 r2;have hng:=(key i (by rw[e3];simp)).2
    exact⟨q1,r1,us,rs,T',by rw[dW hkk.2];exact r2,r3,fun hg=>absurd hg uG,cZ hkk.2 _ _ _⟩
   ·obtain⟨r0,r1,us,rs,T',r2,r3,r4,r5⟩:=hi.box j qs e1 hq
    refine⟨r0,fun o=>?_,us,rs,T',?_,r3.mono g1,r4,jJ r5 fun r hr=>by rw[cQ];cases aB (cb'.map fun x=>(μ x.1,x.2)) r<;>simp;exact hr⟩
    ·cases he:h' (β j) o with
     |none=>rfl
     |some u=>
      have:=g3 _ _ _ he (r1 o);have:=dB r2;omega
    ·rw[hblk _ (dB r2) ?_]
     ·exact r2
     ·intro i ps hp hps hh
      exact e2 i (by rw[hp];simp) (hi.inj _ _ _ _ (eL hl hp) hps e1 hq hh.symm)
  ·have old:∀j qs,aB ((cb'.map fun x=>(μ x.1,x.2))++bx) j=some qs→qs≠[]→∃qs',aB bx j=some qs'∧qs'≠[]:=fun j qs hj hq=>by
    rcases src j qs hj hq with⟨i,qs0,_,_,_,e4,e5,_⟩|⟨e1,_⟩
    ·exact⟨qs0,e5,e4⟩
    ·exact⟨qs,e1,hq⟩
   obtain⟨ps',a1,a2⟩:=old i ps hp hps;obtain⟨qs',b1,b2⟩:=old j qs hq hqs;exact hi.inj i j _ _ a1 a2 b1 b2
theorem tF{h:GH}{β:Nat→Nat}{bx':Bx}{a:Act}{cb:Bx}{μ:Nat→Nat}{sl':Sl}(hs:Slots n h β sl' bx' a):∀{xs:List Operand} {az:List SD},(∀x∈xs,osd sl' x=osd sl x)→zZ sl cb μ xs az→AllS h (fun i=>β (μ i)) cb az (xs.map a.eval)
 |[],[],_,_=>trivial
 |x::xs,s::ss,hx,⟨e1,e2⟩=>by
  have hxx:=hx x (by simp)
  refine⟨?_,?_,tF hs (fun y hy=>hx y (by simp[hy])) e2⟩
  ·cases s with
   |one p=>exact(cH hs (x:=x) (sd:= .one p) (by rw[hxx];exact e1)).1
   |ptr i o=>exact(cH hs (x:=x) (sd:= .ptr (μ i) o) (by rw[hxx];exact e1.1)).1
   |own i o l k=>exact(cH hs (x:=x) (sd:= .own (μ i) o l k) (by rw[hxx];exact e1.1)).1
   |app i k l=>exact e1.elim
   |clo f bs=>exact e1.elim
   |pin i x=>exact e1.elim
   |gen g=>exact e1.elim
  ·cases s with
   |one p=>trivial
   |ptr i o=>exact e1.2
   |own i o l k=>exact e1.2
   |app i k l=>exact e1.elim
   |clo f bs=>exact e1.elim
   |pin i x=>exact e1.elim
   |gen g=>exact e1.elim
 |[],_::_,_,h=>h.elim
 |_::_,[],_,h=>h.elim
theorem dI{f:FuncId}{rb:List Nat}{wb:Bx}{xs:List Operand}{ats:Array TypeId}{az:List SD}{cb cb':Bx}{r:Pd}(μ:Nat→Nat)[hb:CBody P f](hf:FnG P En f az cb (.one r) cb')(ha:zZ sl cb μ xs az)(hl:lF bx μ cb)(hk:uH μ (cb.map (·.1)) (cb'.map (·.1))=true)(hrb:cb.map (fun x=>μ x.1)=rb)(hwb:(cb'.map fun x=>(μ x.1,x.2))=wb):
  RT P En n ⟨dst,.call ⟨.value (.func f),xs.toArray,ats⟩,ty,pos,after,guard⟩ sl bx ⟨.one r,rb,wb⟩:=by
 subst hrb;subst hwb;intro sl' bx' h1 h2 _ w0 h0 c h β a w Q hi hs;have hl':lF bx' μ cb:=by
  have:∀l:Bx,(∀x∈l,x∈cb)→lF bx μ l→lF bx' μ l:=by
   intro l;induction l with
   |nil=>intro _ _;trivial
   |cons x l ih=>
    intro hm hx;exact⟨by rw[h2 _ (List.mem_map.2 ⟨x,hm x (by simp),rfl⟩)];exact hx.1,ih (fun y hy=>hm y (by simp[hy])) hx.2⟩
  exact this cb (fun _ h=>h) hl
 unfold Oper.wp;rw[execOp_call_go,show(#[]++xs.toArray.map a.eval++ #[])=(xs.map a.eval).toArray by simp,gL hb.ok]
 refine Calls.mono (fZs hi hf (tF hs (fun x hx=>h1 x (by simp[Op.operands,Call.operands,hx])) ha) hl' hk) ?_
 rintro e w' ⟨v,h',rfl,q1,q2,q3⟩;exact⟨v,h',β,rfl,q1,q2,fun _ _=>rfl,q3,trivial⟩
theorem jG{f:FuncId}{g:Nat}{xs:List Operand}{ats:Array TypeId}{ps:List Pd}{r:Pd}[hb:CBody P f](hg:aB sl g=some (.one (ex (.func (.func f) #[] #[]))))(hf:Fn P En f ps r)(ha:args sl xs ps):
  RT P En n ⟨dst,.call ⟨.value (.tmp g),xs.toArray,ats⟩,ty,pos,after,guard⟩ sl bx ⟨.one r,[],[]⟩:=by
 intro sl' bx' h1 _ _ w0 h0 c h β a w Q hi hs;have hargs:AllV h ps (xs.map a.eval):=oG ha (fun x hx s hxs=>cH hs (by rw[h1 x (by simp[Op.operands,Call.operands,hx])];exact hxs))
 have hv:a.eval (.tmp g)= .func (.func f) #[] #[]:=(cH hs (x:= .tmp g) (sd:= .one (ex (.func (.func f) #[] #[]))) (by rw[h1 (.tmp g) (by simp[Op.operands,Call.operands])];exact hg)).1
 unfold Oper.wp;have hrun:(execOp a.eval ⟨dst,.call ⟨.value (.tmp g),xs.toArray,ats⟩,ty,pos,after,guard⟩).run P w= .ok (.enter f (xs.map a.eval).toArray) w:=by
  simp only[execOp,resolve,hv,Deferred.ofValue,Sem.run_bind,Sem.run_pure,Result.andThen_ok,invoke];rw[show(#[]++xs.toArray.map a.eval++ #[])=(xs.map a.eval).toArray by simp]
  exact gL hb.ok _ w
 rw[hrun];refine Calls.mono (hf h w _ hi.envNow hi.holds hargs) ?_;rintro e w' ⟨v,h',rfl,g1,g2,g3,g4,g5⟩;exact⟨v,h',β,rfl,hi.call g1 g2 g3 g4,g1,fun _ _=>rfl,g5,trivial⟩
theorem sA{f:FuncId}{xs:List Operand}{ats:Array TypeId}{az:List Pd}{qs:List Pd}{k o len cap d:Nat}[hb:CBody P f](hf:FnG P En f (az.map .one) [] (.own k o len cap) [(k,qs)])(hk:Nat.blt k 1000=true)(ha:args sl xs az)(hd:Nat.blt d 400=true)(hn:aB bx d=none)(hlk:lk k=false:=by rfl):
  RT P En n ⟨some d,.call ⟨.value (.func f),xs.toArray,ats⟩,ty,pos,after,guard⟩ sl bx ⟨.own d o len cap,[],[(d,qs)]⟩:=by
 intro sl' bx' h1 _ h3 w0 h0 c h β a w Q hi hs;have hd:d<400:=Nat.le_of_ble_eq_true hd;have hn':aB bx' d=none:=by rw[h3 d (by simp)];exact hn
 have hargs:AllV h az (xs.map a.eval):=oG ha (fun x hx s hxs=>cH hs (by rw[h1 x (by simp[Op.operands,Call.operands,hx])];exact hxs))
 have hargs':∀(az:List Pd) (vs:List Value),AllV h az vs→AllS h β [] (az.map .one) vs:=by
  intro az;induction az with
  |nil=>intro vs h;cases vs with
   |nil=>trivial
   |cons=>exact h.elim
  |cons p ps ih=>intro vs h;cases vs with
   |nil=>exact h.elim
   |cons v vs=>exact⟨h.1,trivial,ih vs h.2⟩
 unfold Oper.wp;rw[execOp_call_go];rw[show(#[]++xs.toArray.map a.eval++ #[])=(xs.map a.eval).toArray by simp,gL hb.ok]
 refine Calls.mono (hf h β w _ hi.envNow hi.holds ⟨fun i qs hq=>(by cases hq),fun i j ps qs hi'=>(by cases hi')⟩ (fun i ps hi'=>(by cases hi')) (hargs' _ _ hargs)) ?_
 rintro e w' ⟨v,h',β',rfl,g1,g2,g3,g4,g5,g6,g8,g7,_⟩;have hbel:Below w.heap.size w w':=⟨g4.os,g4.tape,g4.output,g4.size,fun k hk=>g4.block k hk (by rintro⟨i,⟨ps,hi',_⟩,_⟩;cases hi')⟩
 have hI:=hi.call g1 g2 g3 hbel;have hqk:aB ([(k,qs)]:Bx) k=some qs:=by rw[aC,if_pos rfl]
 have hnew:qs≠[]→w.heap.size≤β' k:=fun hq=>(g8 k qs hqk hq).1 (Nat.le_of_ble_eq_true hk);have hlt:∀j ps,aB bx' j=some ps→ps≠[]→β j<w.heap.size:=fun j ps hj hp=>by
  obtain⟨_,_,us,rs,T',h3,_⟩:=hi.box j ps hj hp;exact dB h3
 refine⟨v,h',upd β d (β' k),rfl,⟨hI.env,hI.holds,hI.le0,hI.fresh,hI.below,hI.dis,fun j hj=>?_,fun j ps hj hp=>?_,fun i j ps qs' hi' hp hj' hq e=>?_⟩,g1,fun j hj=>aV (by rintro rfl;exact hj hn'),?_,?_⟩
 ·rw[aV oM];exact hI.pin j hj
 ·rw[List.singleton_append,aC] at hj
  by_cases e:d=j
  ·subst e
   rw[if_pos rfl] at hj;cases hj
   rw[cK];obtain⟨r1,us,rs,T',r2,r3,_⟩:=g5.box k qs hqk hp;rw[dW hlk] at r2;exact⟨⟨fun _=>Nat.le_trans hi.below.size (hnew hp),fun h=>absurd hd oM⟩,r1,us,rs,T',by rw[dW (eT hd)];exact r2,r3,fun hg=>absurd hg.1 oM,cZ (eT hd) _ _ _⟩
  ·rw[if_neg e] at hj
   rw[aV (fun h=>e (Eq.symm h))];obtain⟨r0,r1,us,rs,T',r2,r3,r4,r5⟩:=hI.box j ps hj hp;obtain⟨k1,k2⟩:=fK (β':=upd β d (β' k)) (bx':=(d,qs)::bx') r5 (fun r hr=>⟨by rw[aC];split<;>simp;exact hr,aV (by rintro rfl;exact hr hn')⟩)
   exact⟨r0,r1,us,rs,T',by rw[k2];exact r2,r3,fun hg=>by rw[aV (by have:=hg.1;omega)];exact r4 hg,k1⟩
 ·rw[List.singleton_append,aC] at hi' hj'
  by_cases e1:d=i<;>by_cases e2:d=j
  ·rw[←e1,←e2]
  ·subst e1
   rw[cK,aV (fun h=>e2 (Eq.symm h))] at e;rw[if_neg e2] at hj';rw[if_pos rfl] at hi';cases hi'
   have:=hlt j _ hj' hq;have:=hnew hp;omega
  ·subst e2
   rw[cK,aV (fun h=>e1 (Eq.symm h))] at e;rw[if_neg e1] at hi';rw[if_pos rfl] at hj';cases hj'
   have:=hlt i _ hi' hp;have:=hnew hq;omega
  ·rw[aV (fun h=>e1 (Eq.symm h)),aV (fun h=>e2 (Eq.symm h))] at e
   rw[if_neg e1] at hi';rw[if_neg e2] at hj';exact hI.inj i j _ _ hi' hp hj' hq e
 ·obtain⟨cap',g7,hc⟩:∃cap',v= .slice (some ⟨β' k,o,none⟩) len cap'∧cap≤cap'∧cap'≤maxLen:=g7
  exact⟨cap',by rw[cK];exact g7,hc⟩
 ·show aB ((d,qs)::bx') d≠none
  rw[aC,if_pos rfl];simp
end
end
section
open Go.RowKit Limb
def empS:Pd:=⟨fun _ v=>∃a,v= .slice (some a) 0 0,fun _ _ _ _ h=>h⟩
def dZw(l:List Nat):Pd:=⟨fun h v=>(mag l).p h v∧∃a n c,v= .slice (some a) n c,fun _ _ _ hl ⟨h1,h2⟩=>⟨(mag l).mono _ _ _ hl h1,h2⟩⟩
theorem jZh{l:List Nat}(hl:l≠[]):PLe (mag l) (dZw l):=fun h v hm=>⟨hm,by
 obtain⟨⟨a,cap,h1,_,_,h4⟩,_⟩:=hm;obtain⟨b,off,rfl,_⟩:=h4 hl;exact⟨_,_,_,h1⟩⟩
theorem aZc{h:GH}:∀l:List Nat,All2 h (l.map lb) (l.map fun(y:Nat)=>Value.int .u32 (y:Int))
 |[]=>trivial
 |_::l=>⟨rfl,rfl,aZc l⟩
theorem Fn.nil_or{P:Program}{En:Ev}{f:FuncId}{r:Pd}(h1:Fn P En f [ex (.slice none 0 0)] r)(h2:Fn P En f [dZw []] r):Fn P En f [mag []] r:=by
 intro h w vs he hh ha;obtain⟨v,rfl,hv⟩:=ha.one;obtain⟨⟨a,cap,e,q1,⟨q2,q3⟩,q4⟩,q5⟩:=id hv;cases a with
 |none=>
  have:=q3 rfl;subst this;exact h1 h w [v] he hh ⟨e,trivial⟩
 |some ad=>exact h2 h w [v] he hh ⟨⟨hv,_,_,_,e⟩,trivial⟩
section
variable{P:Program}{En:Ev}{n:Nat}{sl:Sl}{bx:Bx}{dst:Option Tmp}{ty:TypeId}{pos:String}{after:Array Edge}{guard:Option (Nat×Bool)}
theorem yE{T E:TypeId}{k:Nat}[hT:CElem P T E k]:RT P En n ⟨dst,.buildSlice T 0 #[],ty,pos,after,guard⟩ sl bx ⟨.one empS,[],[]⟩:=by
 intro sl' bx' h1 _ _ w0 h0 c h β a w Q hi hs;obtain⟨e1,e2⟩:=hT.ok;obtain⟨inf,e3,e4⟩:=Option.map_eq_some_iff.1 e2;have hrun:(execOp a.eval ⟨dst,.buildSlice T 0 #[],ty,pos,after,guard⟩).run P w= .ok (.value (.slice (some ⟨w.heap.size,0,none⟩) 0 0)) (w.alloc (.cells #[] E)):=by
  simp[execOp,Instr.buildSlice,run_underlying e1,sizeOf,run_typeInfo _ e3,Instr.fill,newRow,Array.range_zero']
 unfold Oper.wp;rw[hrun];have hb:Below w.heap.size w (w.alloc (.cells #[] E)):=(Below.refl _ _).alloc (Nat.le_refl _) _;refine⟨_,h,β,rfl,hi.call (Le.refl _) (fun b o v e=>?_) (fun b o v e e0=>by rw[e] at e0;cases e0) hb,Le.refl _,fun _ _=>rfl,⟨_,rfl⟩,trivial⟩
 rw[World.cell?_of_block (w:=w) (a:=⟨b,o,none⟩) (Below.heap_alloc w _ b (hi.holds.lt e))];exact hi.holds b o v e
theorem lZ2{T E:TypeId}{x:Operand}{T':TypeId}[hT:CSlice P T E](hx:osd sl x=some (.one (ex (.slice none 0 0)))):RT P En n ⟨dst,.binOp .eql T x (.const (.slice none 0 0)) T',ty,pos,after,guard⟩ sl bx ⟨.one (ex (.bool true)),[],[]⟩:=
 RT.pure fun ρ h β bx' H=>by
  have hv:ρ x= .slice none 0 0:=(H x (by simp[Op.operands]) _ hx).1
  have hc:ρ (.const (.slice none 0 0))= .slice none 0 0:=(H (.const (.slice none 0 0)) (by simp[Op.operands]) _ rfl).1
  refine⟨.bool true,fun w _=>?_,rfl,trivial⟩;have:=run_equal_slice_nil (P:=P) w T E none 0 0 hT.ok;simp[execOp,eqGuard,Go.binOp,hv,hc,this]
theorem lZ5{T E:TypeId}{x:Operand}{T':TypeId}{l:List Nat}[hT:CSlice P T E](hx:osd sl x=some (.one (dZw l))):RT P En n ⟨dst,.binOp .eql T x (.const (.slice none 0 0)) T',ty,pos,after,guard⟩ sl bx ⟨.one (ex (.bool false)),[],[]⟩:=
 RT.pure fun ρ h β bx' H=>by
  obtain⟨_,a,k,c,hv⟩:(dZw l).p h (ρ x):=(H x (by simp[Op.operands]) _ hx).1
  have hc:ρ (.const (.slice none 0 0))= .slice none 0 0:=(H (.const (.slice none 0 0)) (by simp[Op.operands]) _ rfl).1
  refine⟨.bool false,fun w _=>?_,rfl,trivial⟩;have:=run_equal_slice_nil (P:=P) w T E (some a) k c hT.ok;simp[execOp,eqGuard,Go.binOp,hv,hc,this]
theorem lZ4{T E:TypeId}{x:Operand}{T':TypeId}{l:List Nat}[hT:CSlice P T E](hl:l≠[])(hx:osd sl x=some (.one (mag l))):RT P En n ⟨dst,.binOp .eql T x (.const (.slice none 0 0)) T',ty,pos,after,guard⟩ sl bx ⟨.one (ex (.bool false)),[],[]⟩:=
 RT.pure fun ρ h β bx' H=>by
  obtain⟨_,a,k,c,hv⟩:(dZw l).p h (ρ x):=jZh hl _ _ (H x (by simp[Op.operands]) _ hx).1
  have hc:ρ (.const (.slice none 0 0))= .slice none 0 0:=(H (.const (.slice none 0 0)) (by simp[Op.operands]) _ rfl).1
  refine⟨.bool false,fun w _=>?_,rfl,trivial⟩;have:=run_equal_slice_nil (P:=P) w T E (some a) k c hT.ok;simp[execOp,eqGuard,Go.binOp,hv,hc,this]
theorem oZ5{T:TypeId}{x ix:Operand}{vx vi v:Value}(hx:osd sl x=some (.one (ex vx)))(hi:osd sl ix=some (.one (ex vi)))(hr:∀w,(Instr.index T vx vi).run P w= .ok v w):RT P En n ⟨dst,.index T x ix,ty,pos,after,guard⟩ sl bx ⟨.one (ex v),[],[]⟩:=
 RT.pure fun ρ _ _ _ H=>by
  have h1:ρ x=vx:=(H x (by simp[Op.operands]) _ hx).1
  have h2:ρ ix=vi:=(H ix (by simp[Op.operands]) _ hi).1
  refine⟨v,fun w _=>?_,rfl,trivial⟩;simp only[execOp,h1,h2];rw[Sem.run_bind,hr w];rfl
theorem iP(a:Act)(s x:Operand)(T:TypeId)(w:World){v:Value}{w':World}(h:(Builtin.append_ #[T,T] ty #[a.eval s,a.eval x]).run P w= .ok v w'):(execOp a.eval ⟨dst,.call ⟨.builtin .append, #[s,x], #[T,T]⟩,ty,pos,after,guard⟩).run P w= .ok (.value v) w':=by
 simp only[execOp,resolve,invoke,builtin,Sem.run_bind,Sem.run_pure,Result.andThen_ok,List.map_toArray,List.map_cons,List.map_nil,h]
theorem eZK{T E:TypeId}{s x:Operand}{bytes:Nat}{z:Value}[hT:CElem P T E 1][hz:CZero1 P E z bytes](h1:osd sl s=some (.one empS))(h2:osd sl x=some (.one (dZw []))):
  RT P En n ⟨dst,.call ⟨.builtin .append, #[s,x], #[T,T]⟩,ty,pos,after,guard⟩ sl bx ⟨.one (mag []),[],[]⟩:=by
 intro sl' bx' g1 _ _ w0 h0 c h β a w Q hi hs;obtain⟨b,hb⟩:empS.p h (a.eval s):=(cH hs (x:=s) (sd:= .one empS) (by rw[g1 s (by simp[Op.operands,Call.operands])];exact h1)).1
 obtain⟨hm,ad,k,cp,hx⟩:(dZw []).p h (a.eval x):=(cH hs (x:=x) (sd:= .one (dZw [])) (by rw[g1 x (by simp[Op.operands,Call.operands])];exact h2)).1
 obtain⟨⟨a',cap',e,_⟩,_⟩:=hm;rw[hx] at e;injection e with e1 e2 e3
 obtain⟨hz1,hz2⟩:=hz.ok;obtain⟨inf,q1,q2⟩:=Option.map_eq_some_iff.1 hz1;simp only[Prod.mk.injEq] at q2;obtain⟨q3,q4,q5⟩:=q2;have hr:(Builtin.append_ #[T,T] ty #[.slice (some b) 0 0,.slice (some ad) 0 cp]).run P w= .ok (.slice (some b) 0 0) w:=by
  have hfc:=run_firstCells_some (P:=P) w inf.size 0 ad 0 cp [] (by simp) (by simp)
  simp[Builtin.append_,run_underlying hT.ok.1,sizeOf,run_typeInfo _ q1,Builtin.lenOf,hfc,storeCells]
 unfold Oper.wp;rw[iP a s x T w (v:= .slice (some b) 0 0) (w':=w) (by rw[hb,hx,e2];exact hr)]
 exact⟨_,h,β,rfl,hi,Le.refl _,fun _ _=>rfl,⟨⟨some b,0,rfl,Nat.le_refl _,⟨by unfold maxLen;omega,fun h=>by cases h⟩,fun h=>absurd rfl h⟩,Lm.nil⟩,trivial⟩
theorem eZF{T E:TypeId}{s x:Operand}{bytes d:Nat}{z:Value}{l:List Nat}[hT:CElem P T E 1][hz:CZero1 P E z bytes](h1:osd sl s=some (.one empS))(h2:osd sl x=some (.one (mag l)))(hl:l≠[])(hlen:l.length≤maxLen)(hby:l.length*bytes≤140737488355328)(hd:Nat.blt d 400=true)(hn:aB bx d=none):
  RT P En n ⟨some d,.call ⟨.builtin .append, #[s,x], #[T,T]⟩,ty,pos,after,guard⟩ sl bx ⟨.own d 0 l.length l.length,[],[(d,l.map lb)]⟩:=by
 intro sl' bx' g1 _ g3 w0 h0 c h β a w Q hi hs;have hd:d<400:=Nat.le_of_ble_eq_true hd;have hn':aB bx' d=none:=by rw[g3 d (by simp)];exact hn
 obtain⟨b,hb⟩:empS.p h (a.eval s):=(cH hs (x:=s) (sd:= .one empS) (by rw[g1 s (by simp[Op.operands,Call.operands])];exact h1)).1
 obtain⟨⟨a',cap',hx,_,_,h4⟩,hlm⟩:(mag l).p h (a.eval x):=(cH hs (x:=x) (sd:= .one (mag l)) (by rw[g1 x (by simp[Op.operands,Call.operands])];exact h2)).1
 obtain⟨bb,off,rfl,hc⟩:=h4 hl;obtain⟨hz1,hz2⟩:=hz.ok;obtain⟨inf,q1,q2⟩:=Option.map_eq_some_iff.1 hz1;simp only[Prod.mk.injEq] at q2;obtain⟨q3,q4,q5⟩:=q2;have hpos:0<l.length:=List.length_pos_iff.2 hl;obtain⟨v',w',hr,hown,hgrow⟩:=run_append_arg_grows (P:=P) w T ty E inf z 1 bytes hT.ok.1 q1 q3 q4 q5 (by rw[iK hz2];rfl) oM b 0 0 [] (by simp) (by simp) ⟨bb,off,none⟩ l.length cap' (l.map fun(y:Nat)=>Value.int .u32 (y:Int)) (by simp) (fun j u hu=>by
  rw[Addr.add_mid];rw[List.getElem?_map] at hu;obtain⟨x,hx,rfl⟩:=Option.map_eq_some_iff.1 hu;exact hi.holds _ _ _ (hc j x hx)) oM oM (by rw[Nat.zero_add];exact hby)
 rw[Nat.zero_add,List.nil_append] at hown;obtain⟨o1,o2⟩:=hown;rcases o2 with⟨_,o2⟩|⟨g,cap,cur,rfl,ob,og,on,om,os,ot⟩
 ·omega
 have hbel:Below w.heap.size w w':=⟨hgrow.os,hgrow.tape,hgrow.output,hgrow.size,fun k hk=>hgrow.block k hk (by simp)⟩
 have hI:=hi.call (Le.refl h) (fun b o v e=>by rw[hbel.cell (p:=⟨b,o,none⟩) (hi.holds.lt e)];exact hi.holds b o v e) (fun b o v e e0=>by rw[e] at e0;cases e0) hbel
 have hlt:∀k ps,aB bx' k=some ps→ps≠[]→β k<w.heap.size:=fun k ps hk hp=>by
  obtain⟨_,_,us,rs,T',h3,_⟩:=hi.box k ps hk hp;exact dB h3
 have hhg:∀o,h g o=none:=fun o=>by
  cases hh:h g o with
  |none=>rfl
  |some v=>have:=hi.holds.lt hh;omega
 have hcur:cur=((l.map fun(y:Nat)=>Value.int .u32 (y:Int))++cur.toList.drop l.length).toArray:=by
  rw[Nat.mul_one] at ot;apply Array.ext';simp only;rw[←ot,List.take_append_drop]
 have hall:All2 h (l.map lb) (l.map fun(y:Nat)=>Value.int .u32 (y:Int)):=aZc l;unfold Oper.wp;rw[iP a s x T w (v:= .slice (some ⟨g,0,none⟩) l.length cap) (w':=w') (by rw[hb,hx];exact hr)]
 refine⟨_,h,upd β d g,rfl,⟨hI.env,hI.holds,hI.le0,hI.fresh,hI.below,hI.dis,fun j hj=>?_,fun j ps hj hp=>?_,fun i j ps qs hi' hp hj' hq e=>?_⟩,Le.refl _,fun j hj=>aV (by rintro rfl;exact hj hn'),⟨cap,by rw[cK],on,om⟩,?_⟩
 ·rw[aV oM];exact hI.pin j hj
 ·rw[List.singleton_append,aC] at hj
  by_cases e:d=j
  ·subst e
   rw[if_pos rfl] at hj;cases hj
   rw[cK];exact⟨⟨fun _=>Nat.le_trans hi.below.size ob,fun h=>absurd hd oM⟩,hhg,_,_,E,by rw[dW (eT hd),og,←hcur],hall,fun hg=>absurd hg.1 oM,cZ (eT hd) _ _ _⟩
  ·rw[if_neg e] at hj
   rw[aV (fun h=>e (Eq.symm h))];obtain⟨r0,r1,us,rs,T',r2,r3,r4,r5⟩:=hI.box j ps hj hp;obtain⟨k1,k2⟩:=fK (β':=upd β d g) (bx':=(d,l.map lb)::bx') r5 (fun r hr=>⟨by rw[aC];split<;>simp;exact hr,aV (by rintro rfl;exact hr hn')⟩)
   exact⟨r0,r1,us,rs,T',by rw[k2];exact r2,r3,fun hg=>by rw[aV (by have:=hg.1;omega)];exact r4 hg,k1⟩
 ·rw[List.singleton_append,aC] at hi' hj'
  by_cases e1:d=i<;>by_cases e2:d=j
  ·rw[←e1,←e2]
  ·subst e1
   rw[cK,aV (fun h=>e2 (Eq.symm h))] at e;rw[if_neg e2] at hj';have:=hlt j _ hj' hq;omega
  ·subst e2
   rw[cK,aV (fun h=>e1 (Eq.symm h))] at e;rw[if_neg e1] at hi';have:=hlt i _ hi' hp;omega
  ·rw[aV (fun h=>e1 (Eq.symm h)),aV (fun h=>e2 (Eq.symm h))] at e
   rw[if_neg e1] at hi';rw[if_neg e2] at hj';exact hI.inj i j _ _ hi' hp hj' hq e
 ·show aB ((d,_)::bx') d≠none
  rw[aC,if_pos rfl];simp
end
theorem FnG.const{P:Program}{En:Ev}{f:FuncId}{az:List Pd}{qs:List Pd}{k o len cap:Nat}{r:Pd}(hf:FnG P En f (az.map .one) [] (.own k o len cap) [(k,qs)])(hk:Nat.blt k 1000=true)(hr:PLe (eZj qs o len cap) r)(hlk:lk k=false:=by rfl):Fn P En f az r:=by
 intro h w vs he hh ha;have hargs':∀(az:List Pd) (vs:List Value),AllV h az vs→AllS h (fun _=>0) [] (az.map .one) vs:=by
  intro az;induction az with
  |nil=>intro vs h;cases vs with
   |nil=>trivial
   |cons=>exact h.elim
  |cons p ps ih=>intro vs h;cases vs with
   |nil=>exact h.elim
   |cons v vs=>exact⟨h.1,trivial,ih vs h.2⟩
 refine(hf h (fun _=>0) w vs he hh ⟨fun i qs hq=>(by cases hq),fun i j ps qs hi'=>(by cases hi')⟩ (fun i ps hi'=>(by cases hi')) (hargs' _ _ ha)).mono ?_
 rintro e w' ⟨v,h',β',rfl,g1,g2,g3,g4,g5,g6,g8,g7,_⟩;have hbel:Below w.heap.size w w':=⟨g4.os,g4.tape,g4.output,g4.size,fun k hk=>g4.block k hk (by rintro⟨i,⟨ps,hi',_⟩,_⟩;cases hi')⟩
 have hqk:aB ([(k,qs)]:Bx) k=some qs:=by rw[aC,if_pos rfl]
 obtain⟨cap',g7,hc⟩:∃cap',v= .slice (some ⟨β' k,o,none⟩) len cap'∧cap≤cap'∧cap'≤maxLen:=g7
 by_cases hq:qs=[]
 ·subst hq
  exact⟨v,h',rfl,g1,g2,g3,hbel,hr _ _ ⟨β' k,[],cap',g7,hc,trivial,fun j u hu=>by simp at hu⟩⟩
 obtain⟨r1,us,rs,T',r2,r3,_⟩:=g5.box k qs hqk hq;rw[dW hlk] at r2;have hnew:w.heap.size≤β' k:=(g8 k qs hqk hq).1 (Nat.le_of_ble_eq_true hk);have hle:=cZ5 (vs:=us) r1;refine⟨v,cZ6 h' (β' k) us,rfl,g1.trans hle,fun b j u e=>?_,fun b j u e e0=>?_,hbel,hr _ _ ⟨β' k,us,cap',g7,hc,r3.mono hle,fun j u hu=>by rw[mB];exact hu⟩⟩
 ·by_cases hq:b=β' k
  ·subst hq
   rw[mB] at e;rw[cell_of_row _ _ j _ T' _ r2];have hlt:=(List.getElem?_eq_some_iff.1 e).1;simpa [List.getElem?_append_left hlt] using e
  ·rw[jZ hq] at e;exact g2 b j u e
 ·by_cases hq:b=β' k
  ·subst hq;exact hnew
  ·rw[jZ hq] at e;exact g3 b j u e e0
end
section
open Go.RowKit Limb
end
section
open Go.RowKit Limb
def jC:Pd:=⟨fun _ v=>v.oneCell'=true,fun _ _ _ _ h=>h⟩
class CRowZ(P:Program)(E:TypeId)(k:outParam Nat)(zs:outParam (List Value))(bytes:outParam Nat):Prop where
 ok:(P.info? E).map (fun i=>(i.zero.map (·.cells),i.size,i.bytes))=some (some zs.toArray,k,bytes)∧Nat.beq zs.length k=true∧zs.all (·.oneCell')=true
theorem CRowZ.get{P:Program}{E:TypeId}{k:Nat}{zs:List Value}{bytes:Nat}(h:CRowZ P E k zs bytes):∃i z,P.info? E=some i∧i.zero=some z∧z.cells=zs.toArray∧i.size=k∧i.bytes=bytes∧zs.length=k∧∀v∈zs,v.oneCell'=true:=by
 obtain⟨h1,h2,h3⟩:=h.ok;obtain⟨i,e1,e2⟩:=Option.map_eq_some_iff.1 h1;simp only[Prod.mk.injEq] at e2;obtain⟨e3,e4,e5⟩:=e2;obtain⟨z,e6,e7⟩:=Option.map_eq_some_iff.1 e3;exact⟨i,z,e1,e6,e7,e4,e5,Nat.eq_of_beq_eq_true h2,fun v hv=>List.all_eq_true.1 h3 v hv⟩
theorem eZo{h:GH}:∀{vs:List Value},(∀v∈vs,v.oneCell'=true)→All2 h (List.replicate vs.length jC) vs
 |[],_=>trivial
 |v::vs,hv=>⟨hv v (by simp),hv v (by simp),eZo fun u hu=>hv u (by simp[hu])⟩
theorem bZl{h:GH}{zs:List Value}(hz:∀v∈zs,v.oneCell'=true):∀m,All2 h (List.replicate m (zs.map ex)).flatten (List.replicate m zs).flatten
 |0=>trivial
 |m+1=>by rw[List.replicate_succ,List.replicate_succ,List.flatten_cons,List.flatten_cons];exact(mL hz).append (bZl hz m)
theorem sQ{pl:Nat→Option (Nat×Nat)}:∀{ps:List (Nat×List Pd)} {cs rs:List Pd},pG pl cs ps=some rs→rs.length=cs.length
 |[],cs,rs,h=>by cases h;rfl
 |(i,ps)::r,cs,rs,h=>by
  unfold pG at h;cases hp:pl i with
  |none=>rw[hp] at h;cases h
  |some x=>
   obtain⟨off,size⟩:=x;rw[hp] at h;simp only at h;cases hc:Nat.beq ps.length size&&Nat.ble (off+size) cs.length with
   |false=>rw[hc] at h;cases h
   |true=>rw[hc] at h;rw[sQ h,oW]
theorem yR(zs:List Value)(k:Nat)(hk:zs.length=k):∀m,madeCells zs.toArray (m*k)=(List.replicate m zs).flatten.toArray:=by
 intro m;apply Array.ext';simp only[madeCells,Array.toList_map,Array.toList_range];induction m with
 |zero=>simp
 |succ m ih=>
  rw[List.replicate_succ',List.flatten_append,←ih,Nat.succ_mul,List.range_add,List.map_append];congr 1
  simp only[List.flatten_cons,List.flatten_nil,List.append_nil,List.map_map];apply List.ext_getElem
  ·simp[hk]
  ·intro i h1 h2
   have hi:i<k:=by simpa using h1
   have hz:(m*k+i)%zs.length=i:=by rw[hk,Nat.add_comm,Nat.add_mul_mod_self_right,Nat.mod_eq_of_lt hi]
   simp only[List.getElem_map,List.getElem_range,Function.comp_apply,List.size_toArray];rw[hz];simp[h2]
section
variable{P:Program}{En:Ev}{n:Nat}{sl:Sl}{bx:Bx}{dst:Option Tmp}{ty:TypeId}{pos:String}{after:Array Edge}{guard:Option (Nat×Bool)}
theorem aK{T E:TypeId}{x ix:Operand}{k m i:Nat}{ps:List Pd}{kk:IntKind}[hT:CElem P T E k](hx:osd sl x=some (.one (slc k ps m)))(hi:osd sl ix=some (.one (ex (.int kk (i:Int)))))(hy:i<m){qs:List Pd}(hq:(ps.drop (i*k)).take k=qs)(hk:Nat.blt 0 k=true:=by rfl):
  RT P En n ⟨dst,.indexAddr T x ix,ty,pos,after,guard⟩ sl bx ⟨.one (cpR qs),[],[]⟩:=
 RT.pure fun ρ h β bx' H=>by
  subst hq;obtain⟨a,cap,h1,h2,h3,h4,h5,h6⟩:(slc k ps m).p h (ρ x):=(H x (by simp[Op.operands]) _ hx).1
  have h7:ρ ix= .int kk (i:Int):=(H ix (by simp[Op.operands]) _ hi).1
  have hk:0<k:=Nat.le_of_ble_eq_true hk;have hpos:0<m*k:=Nat.mul_pos oM hk;obtain⟨b,off,vs,rfl,ha,hc⟩:=h6 (by rintro rfl;simp at h5;omega)
  refine⟨.pointer (some ⟨b,off+i*k,none⟩),fun w _=>?_,⟨b,off+i*k,(vs.drop (i*k)).take k,rfl,(ha.drop _).take _,fun j u hu=>?_⟩,trivial⟩
  ·simp only[execOp,h1,h7,Sem.run_bind,mT hT b off m cap kk hy w,Result.andThen_ok,Sem.run_pure]
  ·rw[List.getElem?_take] at hu
   split at hu
   ·rw[Nat.add_assoc];exact hc _ _ (by simpa using hu)
   ·cases hu
theorem eZJ{T E:TypeId}{x ix:Operand}{k m j:Nat}{ps:List Pd}{kk:IntKind}[hT:CElem P T E k](hx:osd sl x=some (.one (slc k ps m)))(hi:osd sl ix=some (.one (ex (.int kk (j:Int)))))(hj:j≤m){qs:List Pd}(hq:ps.take (j*k)=qs):
  RT P En n ⟨dst,.slice T x none (some ix) none,ty,pos,after,guard⟩ sl bx ⟨.one (slc k qs j),[],[]⟩:=
 RT.pure fun ρ h β bx' H=>by
  subst hq;obtain⟨a,cap,h1,h2,h3,h4,h5,h6⟩:(slc k ps m).p h (ρ x):=(H x (by simp[Op.operands]) _ hx).1
  have h7:ρ ix= .int kk (j:Int):=(H ix (by simp[Op.operands]) _ hi).1
  have hle:j*k≤m*k:=Nat.mul_le_mul_right _ hj;refine⟨.slice a j cap,fun w _=>?_,⟨a,cap,rfl,oM,h3,h4,by simp;omega,fun hn=>?_⟩,trivial⟩
  ·simp only[execOp,Option.map_none,Option.map_some,h1,h7,Sem.run_bind,xQ hT a m cap none (some (.int kk (j:Int))) 0 j w (eZD _ _ _ oM w),Result.andThen_ok,Sem.run_pure]
   have:(if cap=0 then a else a.map (·.add (0*k)))=a:=by
    split
    ·rfl
    ·cases a with
     |none=>rfl
     |some ad=>simp[Addr.add]
   rw[this];rfl
  ·obtain⟨b,off,vs,e,ha,hc⟩:=h6 (by rintro rfl;simp at hn)
   refine⟨b,off,vs.take (j*k),e,ha.take _,fun i u hu=>?_⟩;rw[List.getElem?_take] at hu;split at hu
   ·exact hc _ _ hu
   ·cases hu
theorem qV{T E:TypeId}{x ix:Operand}{k m j:Nat}{ps:List Pd}{kk:IntKind}[hT:CElem P T E k](hx:osd sl x=some (.one (slc k ps m)))(hi:osd sl ix=some (.one (ex (.int kk (j:Int)))))(hj:j≤m){qs:List Pd}(hq:ps.drop (j*k)=qs):
  RT P En n ⟨dst,.slice T x (some ix) none none,ty,pos,after,guard⟩ sl bx ⟨.one (slc k qs (m-j)),[],[]⟩:=
 RT.pure fun ρ h β bx' H=>by
  subst hq;obtain⟨a,cap,h1,h2,h3,h4,h5,h6⟩:(slc k ps m).p h (ρ x):=(H x (by simp[Op.operands]) _ hx).1
  have h7:ρ ix= .int kk (j:Int):=(H ix (by simp[Op.operands]) _ hi).1
  have hle:j*k≤m*k:=Nat.mul_le_mul_right _ hj;refine⟨.slice (if cap=j then a else a.map (·.add (j*k))) (m-j) (cap-j),fun w _=>?_,⟨_,cap-j,rfl,oM,oM,fun he=>?_,by simp[Nat.sub_mul];omega,fun hn=>?_⟩,trivial⟩
  ·simp only[execOp,Option.map_none,Option.map_some,h1,h7,Sem.run_bind,xQ hT a m cap (some (.int kk (j:Int))) none j m w (oZ4 _ _ _ hj w),Result.andThen_ok,Sem.run_pure]
  ·split at he
   ·omega
   ·cases a with
    |none=>have:=h4 rfl;omega
    |some ad=>cases he
  ·obtain⟨b,off,vs,e,ha,hc⟩:=h6 (by rintro rfl;simp at hn)
   have hlt:j*k<ps.length:=by
    rcases Nat.lt_or_ge (j*k) ps.length with h|h
    ·exact h
    ·exact absurd (List.drop_eq_nil_of_le h) hn
   have hjm:j<m:=by
    rcases Nat.lt_or_ge j m with h|h
    ·exact h
    ·have:m*k≤j*k:=Nat.mul_le_mul_right _ h;omega
   rw[if_neg oM,e];refine⟨b,off+j*k,vs.drop (j*k),by rw[Option.map_some,Addr.add_mid],ha.drop _,fun i u hu=>?_⟩
   rw[Nat.add_assoc];exact hc _ _ (by simpa using hu)
theorem rG{T E:TypeId}{xs:List (Nat×Operand)}{ps:List (Nat×List Pd)}{len k bytes:Nat}{zs:List Value}{rs:List Pd}(hT:CElem P T E k)(hz:CRowZ P E k zs bytes)(hp:mH sl xs ps)(hf:pG (fun i=>some (i*k,k)) (List.replicate (len*k) jC) ps=some rs)(hm:len*k≤1000)(hpos:0<len*k)
  {ρ:Operand→Value} {h:GH} {β:Nat→Nat} {bx':Bx} (H:∀x∈xs,∀s,osd sl x.2=some s→s.ok h β (ρ x.2)∧s.live bx'):
  ∃us:List Value,All2 h rs us∧us.length=len*k∧∀w,(execOp ρ ⟨dst,.buildSlice T len xs.toArray,ty,pos,after,guard⟩).run P w= .ok (.value (.slice (some ⟨w.heap.size,0,none⟩) len len)) (w.alloc (.cells us.toArray E)):=by
 obtain⟨inf,z,q1,q2,q3,q4,q5,q6,q7⟩:=hz.get;have hfl:∀v∈(List.replicate len zs).flatten,v.oneCell'=true:=fun v hv=>by
  obtain⟨l,hl,hv⟩:=List.mem_flatten.1 hv;rw[(List.mem_replicate.1 hl).2] at hv;exact q7 v hv
 have hlen:(List.replicate len zs).flatten.length=len*k:=by simp[q6]
 have hbase:=eZo (h:=h) hfl;rw[hlen] at hbase;obtain⟨us,u1,u2⟩:=sP (ρ:=ρ) (β:=β) (bx':=bx') hp H hf hbase;refine⟨us,u2,by rw[←u2.length,sQ hf];simp,fun w=>?_⟩
 have hmap:(xs.toArray.map fun x=>(x.1,ρ x.2)).toList=xs.map fun x=>(x.1,ρ x.2):=by simp
 have hlim:¬(len*k>2^24):=oM;have h0:¬len*k=0:=oM;have hmade:=yR zs k q6 len;unfold madeCells at hmade;simp only[execOp,Instr.buildSlice,Sem.run_bind,run_underlying hT.ok.1,Result.andThen_ok,sizeOf,run_typeInfo _ q1,q4,if_neg hlim,if_neg h0,Sem.run_pure,zeroValue,q2,q3];rw[hmap,hmade,u1];rfl
theorem bW{T E:TypeId}{xs:List (Nat×Operand)}{ps:List (Nat×List Pd)}{len k bytes:Nat}{zs:List Value}{rs:List Pd}[hT:CElem P T E k][hz:CRowZ P E k zs bytes](hp:mH sl xs ps)(hf:pG (fun i=>some (i*k,k)) (List.replicate (len*k) jC) ps=some rs)(hm:Nat.ble (len*k) 1000=true)(hpos:Nat.blt 0 (len*k)=true):
  RT P En n ⟨dst,.buildSlice T len xs.toArray,ty,pos,after,guard⟩ sl bx ⟨.one (slc k rs len),[],[]⟩:=by
 intro sl' bx' h1 _ _ w0 h0 c h β a w Q hi hs;obtain⟨us,u1,u2,u3⟩:=rG (dst:=dst) (ty:=ty) (pos:=pos) (after:=after) (guard:=guard) hT hz hp hf (Nat.le_of_ble_eq_true hm) (Nat.le_of_ble_eq_true hpos) (ρ:=a.eval) (h:=h) (β:=β) (bx':=bx') (fun x hx s hxs=>cH hs (by rw[h1 x.2 (by simp[Op.operands];exact⟨x.1,hx⟩)];exact hxs))
 obtain⟨hinv,hle⟩:=hi.allocC us E;have hpos:0<len*k:=Nat.le_of_ble_eq_true hpos;have hlen:len≤1000:=by
  have:=Nat.le_of_ble_eq_true hm;have:0<k:=Nat.pos_of_mul_pos_left hpos;have:len*1≤len*k:=Nat.mul_le_mul_left _ this;omega
 unfold Oper.wp;rw[u3 w];refine⟨_,_,β,rfl,hinv,hle,fun _ _=>rfl,⟨some ⟨w.heap.size,0,none⟩,len,rfl,Nat.le_refl _,by unfold maxLen;omega,(fun h=>by cases h),by rw[u1.length,u2],fun _=>⟨w.heap.size,0,us,rfl,u1.mono hle,fun j u hu=>?_⟩⟩,trivial⟩
 rw[Nat.zero_add,mB];exact hu
theorem Inv.allocA{w0:World}{h0:GH}{c:Cx}{h:GH}{β:Nat→Nat}{w:World}(hi:Inv En w0 h0 c h β bx w)(d:Nat)(hd1:500≤d)(hd2:d<750){ps:List Pd}{vs rest:List Value}(ha:All2 h ps vs)(T:TypeId){g:Nat}{w':World}(hh:Holds h w')(hbel:BelowM c.M w0 w')(hg:w0.heap.size≤g)(hgh:∀o,h g o=none)(hcell:w'.heap[g]? =some (.cells (tI d β vs++rest).toArray T (0,0)))(hlr:pB d β bx vs)(hnd:aB bx d=none)(hnd2:aB bx (d+250)=none)
  (hold:∀j qs,aB bx j=some qs→qs≠[]→β j≠g∧w'.heap[β j]? =w.heap[β j]?):
  Inv En w0 h0 c h (upd (upd β d g) (d+250) (vs++rest).length) ((d,ps)::(d+250,[])::bx) w':=by
 have e0:upd (upd β d g) (d+250) (vs++rest).length d=g:=by rw[aV oM,cK]
 have e1:upd (upd β d g) (d+250) (vs++rest).length (d+250)=(vs++rest).length:=cK;have e2:∀j,j≠d→j≠d+250→upd (upd β d g) (d+250) (vs++rest).length j=β j:=fun j h1 h2=>by rw[aV h2,aV h1]
 have src:∀j qs,aB ((d,ps)::(d+250,[])::bx) j=some qs→qs≠[]→(j=d∧qs=ps)∨(j≠d∧j≠d+250∧aB bx j=some qs):=fun j qs hj hq=>by
  rw[aC,aC] at hj;split at hj
  ·rename_i e;cases hj;exact .inl ⟨e.symm,rfl⟩
  ·rename_i e
   split at hj
   ·cases hj;exact absurd rfl hq
   ·rename_i e';exact .inr ⟨fun h=>e h.symm,fun h=>e' h.symm,hj⟩
 have live:∀{qs:List Pd},∀i,aB bx i≠none→aB ((d,qs)::(d+250,[])::bx) i≠none∧upd (upd β d g) (d+250) (vs++rest).length i=β i:=fun {qs} i hi'=>⟨by rw[aC,aC];split<;>(try split)<;>simp;exact hi',e2 i (by rintro rfl;exact hi' hnd) (by rintro rfl;exact hi' hnd2)⟩
 refine⟨hi.env,hh,hi.le0,hi.fresh,hbel,hi.dis,fun j hj=>?_,fun j qs hj hq=>?_,fun i j qs rs hi' hq hj' hr e=>?_⟩
 ·rw[e2 j oM oM];exact hi.pin j hj
 ·rcases src j qs hj hq with⟨rfl,rfl⟩|⟨n1,n2,hj⟩
  ·rw[e0]
   obtain⟨k1,k2⟩:=fK hlr (live (qs:=qs));exact⟨⟨fun _=>hg,fun h=>absurd h oM⟩,hgh,vs,rest,T,by rw[k2];exact hcell,ha,fun _=>e1.symm,k1⟩
  ·rw[e2 j n1 n2]
   obtain⟨r0,r1,us,rs,T',r2,r3,r4,r5⟩:=hi.box j qs hj hq;obtain⟨k1,k2⟩:=fK r5 (live (qs:=ps));exact⟨r0,r1,us,rs,T',by rw[(hold j qs hj hq).2,k2];exact r2,r3,fun hg=>by rw[e2 _ (by have:=hg.1;omega) oM];exact r4 hg,k1⟩
 ·rcases src i qs hi' hq with⟨ei,_⟩|⟨n1,n2,hi2⟩<;>rcases src j rs hj' hr with⟨ej,_⟩|⟨m1,m2,hj2⟩
  ·rw[ei,ej]
  ·rw[ei,e0,e2 j m1 m2] at e
   exact absurd e.symm (hold j rs hj2 hr).1
  ·rw[ej,e0,e2 i n1 n2] at e
   exact absurd e (hold i qs hi2 hq).1
  ·rw[e2 i n1 n2,e2 j m1 m2] at e
   exact hi.inj i j _ _ hi2 hq hj2 hr e
theorem oX{α:Type}:∀(us vs rest:List α),us.length≤rest.length→eW (vs++rest) vs.length us=vs++us++rest.drop us.length
 |[],vs,rest,_=>by simp[eW]
 |u::us,vs,[],h=>by simp at h
 |u::us,vs,r::rest,h=>by
  simp only[eW];rw[show(vs++r::rest).set vs.length u=(vs++[u])++rest by simp]
  have:=oX us (vs++[u]) rest (by simpa using h)
  rw[List.length_append,List.length_singleton] at this;rw[this];simp
def idA(d:Nat):Bool:=Nat.ble 500 d&&Nat.blt d 700
theorem zF{d:Nat}(h:idA d=true):500≤d∧d<750:=by
 unfold idA at h;rw[Bool.and_eq_true] at h;have:d<700:=Nat.le_of_ble_eq_true h.2;exact⟨Nat.le_of_ble_eq_true h.1,oM⟩
theorem zG{d:Nat}(h:idA d=true):lk d=false:=by
 unfold idA at h;rw[Bool.and_eq_true] at h;have h1:=Nat.le_of_ble_eq_true h.1;have h2:d<700:=Nat.le_of_ble_eq_true h.2;unfold lk;rw[show Nat.blt d 500=false by cases e:Nat.blt d 500;rfl;exact absurd (Nat.le_of_ble_eq_true e) oM,show Nat.ble 700 d=false by cases e:Nat.ble 700 d;rfl;exact absurd (Nat.le_of_ble_eq_true e) oM,show Nat.ble 1750 d=false by cases e:Nat.ble 1750 d;rfl;exact absurd (Nat.le_of_ble_eq_true e) oM]
 simp
theorem Inv.hlt{w0:World}{h0:GH}{c:Cx}{h:GH}{β:Nat→Nat}{w:World}(hi:Inv En w0 h0 c h β bx w){j:Nat}{qs:List Pd}(hj:aB bx j=some qs)(hq:qs≠[]):β j<w.heap.size:=by
 obtain⟨_,_,us,rs,T',h3,_⟩:=hi.box j qs hj hq;exact dB h3
theorem aZ0{T E:TypeId}{xs:List (Nat×Operand)}{ps:List (Nat×List Pd)}{len k bytes:Nat}{zs:List Value}{rs:List Pd}(d:Nat)[hT:CElem P T E k][hz:CRowZ P E k zs bytes](hp:mH sl xs ps)(hf:pG (fun i=>some (i*k,k)) (List.replicate (len*k) jC) ps=some rs)(hm:Nat.ble (len*k) 1000=true)(hpos:Nat.blt 0 (len*k)=true)(hd:idA d=true)(hn:aB bx d=none)(hn2:aB bx (d+250)=none):
  RT P En n ⟨dst,.buildSlice T len xs.toArray,ty,pos,after,guard⟩ sl bx ⟨.app d k len,[],[(d,rs),(d+250,[])]⟩:=by
 intro sl' bx' h1 _ h3 w0 h0 c h β a w Q hi hs;obtain⟨hd1,hd2⟩:=zF hd;have hn':aB bx' d=none:=by rw[h3 d (by simp)];exact hn
 have hn2':aB bx' (d+250)=none:=by rw[h3 (d+250) (by simp)];exact hn2
 obtain⟨us,u1,u2,u3⟩:=rG (dst:=dst) (ty:=ty) (pos:=pos) (after:=after) (guard:=guard) hT hz hp hf (Nat.le_of_ble_eq_true hm) (Nat.le_of_ble_eq_true hpos) (ρ:=a.eval) (h:=h) (β:=β) (bx':=bx') (fun x hx s hxs=>cH hs (by rw[h1 x.2 (by simp[Op.operands];exact⟨x.1,hx⟩)];exact hxs))
 have hpos:0<len*k:=Nat.le_of_ble_eq_true hpos;have hk0:0<k:=Nat.pos_of_mul_pos_left hpos;have hlen:len≤1000:=by
  have:=Nat.le_of_ble_eq_true hm;have:len*1≤len*k:=Nat.mul_le_mul_left _ hk0;omega
 have hlp:0<len:=Nat.pos_of_mul_pos_right hpos;unfold Oper.wp;rw[u3 w];have hI:=hi.allocA d hd1 hd2 (rest:=[]) u1 E (g:=w.heap.size) (w':=w.alloc (.cells us.toArray E)) (fun b o v e=>by rw[World.cell?_of_block (w:=w) (a:=⟨b,o,none⟩) (Below.heap_alloc w _ b (hi.holds.lt e))];exact hi.holds b o v e) (hi.below.below ((Below.refl _ _).alloc (Nat.le_refl _) _)) hi.below.size (fun o=>by
  cases hh:h w.heap.size o with
  |none=>rfl
  |some v=>exact absurd (hi.holds.lt hh) (Nat.lt_irrefl _)) (by rw[List.append_nil,dW (zG hd)];exact heap_alloc_new w _) (cZ (zG hd) _ _ _) hn' hn2' (fun j qs hj hq=>by
  have:=hi.hlt hj hq;exact⟨oM,Below.heap_alloc w _ _ this⟩)
 refine⟨_,h,_,rfl,hI,Le.refl _,fun j hj=>?_,.inr ⟨len,?_,hlp,Nat.le_refl _,by unfold maxLen;omega,?_⟩,?_⟩
 ·rw[aV (by rintro rfl;exact hj hn2'),aV (by rintro rfl;exact hj hn')]
 ·rw[aV oM,cK]
 ·rw[cK,List.append_nil,u2]
 ·exact⟨by show aB ((d,rs)::_) d≠none;rw[aC,if_pos rfl];simp,by show aB ((d,rs)::(d+250,[])::_) (d+250)≠none;rw[aC,if_neg oM,aC,if_pos rfl];simp⟩
theorem cC{T E:TypeId}{s x:Operand}{b k len m bytes:Nat}{zs:List Value}{ps qs:List Pd}(d:Nat)[hT:CElem P T E k][hz:CRowZ P E k zs bytes](h1:osd sl s=some (.app b k len))(hb:aB bx b=some ps)(hlen:ps.length=len*k)(h2:osd sl x=some (.one (slc k qs m)))(hm:0<m)(hmax:len+m≤1000000000)(hby:Nat.ble bytes 10000=true)(hd:idA d=true)(hn:aB bx d=none)(hn2:aB bx (d+250)=none)(hbd:idA b=true){rs:List Pd}(hr:ps++qs=rs)(hk0:Nat.blt 0 k=true:=by rfl):
  RT P En n ⟨dst,.call ⟨.builtin .append, #[s,x], #[T,T]⟩,ty,pos,after,guard⟩ sl bx ⟨.app d k (len+m),[b],[(d,rs),(d+250,[]),(b,[])]⟩:=by
 subst hr;intro sl' bx' g1 g2 g3 w0 h0 c h β a w Q hi hs;obtain⟨hd1,hd2⟩:=zF hd;obtain⟨hb1,hb2⟩:=zF hbd;have hn':aB bx' d=none:=by rw[g3 d (by simp)];exact hn
 have hn2':aB bx' (d+250)=none:=by rw[g3 (d+250) (by simp)];exact hn2
 have hb':aB bx' b=some ps:=by rw[g2 b (by simp)];exact hb
 have hdb:d≠b:=by rintro rfl;rw[hb] at hn;cases hn
 have hsv:=(cH hs (x:=s) (sd:= .app b k len) (by rw[g1 s (by simp[Op.operands,Call.operands])];exact h1)).1
 obtain⟨ao,capx,hx,x2,x3,x4,x5,x6⟩:(slc k qs m).p h (a.eval x):=(cH hs (x:=x) (sd:= .one (slc k qs m)) (by rw[g1 x (by simp[Op.operands,Call.operands])];exact h2)).1
 obtain⟨inf,z,q1,q2,q3,q4,q5,q6,q7⟩:=hz.get;have hk0:0<k:=Nat.le_of_ble_eq_true hk0;have hmk:0<m*k:=Nat.mul_pos hm hk0;obtain⟨bb,off,us,rfl,hua,huc⟩:=x6 (by rintro rfl;simp at x5;omega)
 have hby:=Nat.le_of_ble_eq_true hby;have hul:us.length=m*k:=by rw[←hua.length,x5]
 have hnews:∀j u,us[j]? =some u→w.cell? ((⟨bb,off,none⟩:Addr).add j)=some u:=fun j u hu=>by rw[Addr.add_mid];exact hi.holds _ _ _ (huc j u hu)
 have hbytes:(len+m)*bytes≤140737488355328:=by
  have:(len+m)*bytes≤1000000000*10000:=Nat.mul_le_mul hmax hby;omega
 have h63:len+m≤maxLen:=by unfold maxLen;omega
 have hsz:z.cells.size=k:=by rw[q3];simp[q6]
 -- what is left to show, for the new block
 have done:∀(g cap:Nat) (w':World) (vs rest:List Value) (T':TypeId),(Builtin.append_ #[T,T] ty #[a.eval s,a.eval x]).run P w= .ok (.slice (some ⟨g,0,none⟩) (len+m) cap) w'→All2 h ps vs→
   Holds h w'→BelowM c.M w0 w'→w0.heap.size≤g→(∀o,h g o=none)→w'.heap[g]? =some (.cells (vs++us++rest).toArray T' (0,0))→(vs++us++rest).length=cap*k→len+m≤cap→cap≤maxLen→
   (∀j qs,aB bx' j=some qs→qs≠[]→j≠b→β j≠g∧w'.heap[β j]? =w.heap[β j]?)→
   Oper.wp P ⟨dst,.call ⟨.builtin .append, #[s,x], #[T,T]⟩,ty,pos,after,guard⟩ a w (fun a' w'=>∃v h' β',a'=a.put dst v∧Inv En w0 h0 c h' β' ([(d,ps++qs),(d+250,[]),(b,[])]++bx') w'∧Le h h'∧(∀i,aB bx' i≠none→β' i=β i)∧(SD.app d k (len+m)).ok h' β' v∧(SD.app d k (len+m)).live ([(d,ps++qs),(d+250,[]),(b,[])]++bx')) Q:=by
  intro g cap w' vs rest T' hrun hall hh hbel hg hgh hcell hsize hcap hcm hold;have hi0:Inv En w0 h0 c h β ((b,[])::bx') w:=by
   have src:∀j qs,aB ((b,([]:List Pd))::bx') j=some qs→qs≠[]→j≠b∧aB bx' j=some qs:=fun j qs hj hq=>by
    rw[aC] at hj;split at hj
    ·cases hj;exact absurd rfl hq
    ·rename_i e;exact⟨fun h=>e h.symm,hj⟩
   exact⟨hi.env,hi.holds,hi.le0,hi.fresh,hi.below,hi.dis,hi.pin,fun j qs hj hq=>by
    obtain⟨p1,p2,us,rs,T',p3,p4,p5,p6⟩:=hi.box j qs (src j qs hj hq).2 hq;exact⟨p1,p2,us,rs,T',p3,p4,p5,jJ p6 fun r hr=>by rw[aC];split<;>simp;exact hr⟩,fun i j qs rs hi' hq hj' hr=>hi.inj i j _ _ (src i qs hi' hq).2 hq (src j rs hj' hr).2 hr⟩
  have hI:=hi0.allocA d hd1 hd2 (ps:=ps++qs) (vs:=vs++us) (rest:=rest) (hall.append hua) T' hh hbel hg hgh (by rw[dW (zG hd)];exact hcell) (cZ (zG hd) _ _ _) (by rw[aC,if_neg (by rintro rfl;exact hdb rfl)];exact hn') (by rw[aC,if_neg oM];exact hn2') (fun j rs hj hr=>by
   rw[aC] at hj;split at hj
   ·cases hj;exact absurd rfl hr
   ·rename_i e;exact hold j rs hj hr (fun h=>e h.symm))
  unfold Oper.wp;rw[iP a s x T w hrun];refine⟨_,h,_,rfl,hI,Le.refl _,fun j hj=>?_,.inr ⟨cap,?_,oM,hcap,hcm,?_⟩,?_⟩
  ·rw[aV (by rintro rfl;exact hj hn2'),aV (by rintro rfl;exact hj hn')]
  ·rw[aV oM,cK]
  ·rw[cK,hsize]
  ·exact⟨by show aB ((d,_)::_) d≠none;rw[aC,if_pos rfl];simp,by show aB ((d,_)::(d+250,[])::_) (d+250)≠none;rw[aC,if_neg oM,aC,if_pos rfl];simp⟩
 have fresh:∀o,h w.heap.size o=none:=fun o=>by
  cases hh:h w.heap.size o with
  |none=>rfl
  |some v=>exact absurd (hi.holds.lt hh) (Nat.lt_irrefl _)
 have newb:∀(vs:List Value) (v':Value) (w':World),All2 h ps vs→(Builtin.append_ #[T,T] ty #[a.eval s,a.eval x]).run P w= .ok v' w'→w'.ownsRow w.heap.size E k v' (len+m) (vs++us)→w.grownBy w' none→Oper.wp P ⟨dst,.call ⟨.builtin .append, #[s,x], #[T,T]⟩,ty,pos,after,guard⟩ a w (fun a' w'=>∃v h' β',a'=a.put dst v∧Inv En w0 h0 c h' β' ([(d,ps++qs),(d+250,[]),(b,[])]++bx') w'∧Le h h'∧(∀i,aB bx' i≠none→β' i=β i)∧(SD.app d k (len+m)).ok h' β' v∧(SD.app d k (len+m)).live ([(d,ps++qs),(d+250,[]),(b,[])]++bx')) Q:=by
  intro vs v' w' hall hr hown hgrow;obtain⟨_,⟨_,o2⟩|⟨g,cap,cur,rfl,o1,o2,o3,o4,o5,o6⟩⟩:=hown
  ·omega
  have hbel:Below w.heap.size w w':=⟨hgrow.os,hgrow.tape,hgrow.output,hgrow.size,fun k hk=>hgrow.block k hk (by simp)⟩
  refine done g cap w' vs (cur.toList.drop ((len+m)*k)) E hr hall (fun b o v e=>by rw[hbel.cell (p:=⟨b,o,none⟩) (hi.holds.lt e)];exact hi.holds b o v e) (hi.below.below hbel) (Nat.le_trans hi.below.size o1) (fun o=>?_) ?_ ?_ o3 o4 (fun j rs hj hr _=>?_)
  ·cases hh:h g o with
   |none=>rfl
   |some v=>have:=hi.holds.lt hh;omega
  ·rw[←o6,List.take_append_drop];exact o2
  ·rw[←o6,List.take_append_drop];simpa using o5
  ·have:=hi.hlt hj hr
   exact⟨oM,hbel.block _ this⟩
 rcases hsv with⟨hsv,hl0⟩|⟨cap0,hsv,c1,c2,c3,c4⟩
 ·subst hl0
  have hp0:ps=[]:=List.length_eq_zero_iff.1 (by rw[hlen];simp)
  obtain⟨v',w',hr,hown,hgrow,_⟩:=run_append_own (P:=P) w w.heap.size T ty E inf z k bytes hT.ok.1 q1 q2 q4 q5 hsz hk0 (.slice none 0 0) 0 [] (World.ownsRow_nil w _ E k) ⟨bb,off,none⟩ m capx us hul hnews (fun u hu=>hua.one u hu) oM oM (Nat.le_refl _);exact newb [] v' w' (by rw[hp0];trivial) (by rw[hsv,hx];exact hr) (by simpa using hown) (by simpa [Value.ownBlock] using hgrow)
 ·have hps:ps≠[]:=by rintro rfl;have:0<len*k:=Nat.mul_pos c1 hk0;simp at hlen;omega
  obtain⟨r0,r1,vs,rest,T',r2,r3,r4⟩:=hi.box0 b ps hb' hps (zG hbd);have hsize:=r4 ⟨hb1,hb2⟩;rw[←c4] at hsize;have hvl:vs.length=len*k:=by rw[←r3.length,hlen]
  by_cases hroom:len+m≤cap0
  ·have hmul:len*k+m*k≤cap0*k:=by rw[←Nat.add_mul];exact Nat.mul_le_mul_right _ hroom
   have hlt:∀j,j<us.length→len*k+j<(vs++rest).length:=fun j hj=>by rw[hsize];omega
   have hcl:∀j,j<us.length→(w.cell? ⟨β b,0+len*inf.size+j,none⟩).isSome=true:=fun j hj=>by
    rw[q4,Nat.zero_add,cell_of_row w _ _ _ T' _ r2];have:=hlt j hj;simp only[List.getElem?_toArray,List.getElem?_eq_getElem this,Option.isSome_some]
   have hfz:∀j,j<us.length→w.frozen? ⟨β b,0+len*inf.size+j,none⟩=false:=fun j hj=>by
    unfold World.frozen?;simp[r2]
   have hr:=run_append_room_cells (P:=P) w T ty E inf hT.ok.1 q1 (β b) 0 len cap0 ⟨bb,off,none⟩ m capx us (by rw[q4];exact hul) hnews (fun u hu=>hua.one u hu) hroom hcl hfz
   rw[q4,Nat.zero_add] at hr;refine done (β b) cap0 _ vs (rest.drop us.length) T' (by rw[hsv,hx];exact hr) r3 (fun b' o v e=>?_) (jY (.inl (r0.1 oM)) _ _ _ hi.below) (r0.1 oM) r1 ?_ ?_ hroom c3 (fun j rs hj hr hne=>?_)
   ·have hbb:b'≠β b:=by rintro rfl;rw[r1 o] at e;cases e
    rw[World.cell?_of_block (w:=w) (a:=⟨b',o,none⟩) (cS hbb _ _ _)];exact hi.holds b' o v e
   ·rw[iO us (len*k) w _ T' _ r2,←hvl,oX us vs rest (by simp at hsize;omega)]
   ·simp at hsize ⊢;omega
   ·have hne':β j≠β b:=fun e=>hne (hi.inj _ _ _ _ hj hr hb' hps e)
    exact⟨hne',cS hne' _ _ _⟩
  ·obtain⟨v',w',hr,hown,hgrow⟩:=run_append_arg_grows (P:=P) w T ty E inf z k bytes hT.ok.1 q1 q2 q4 q5 hsz hk0 ⟨β b,0,none⟩ len cap0 vs hvl (fun j u hu=>by
    rw[Addr.add_mid,Nat.zero_add,cell_of_row w _ _ _ T' _ r2];have hlt:=(List.getElem?_eq_some_iff.1 hu).1;simpa [List.getElem?_append_left hlt] using hu) ⟨bb,off,none⟩ m capx us hul hnews oM h63 hbytes
   exact newb vs v' w' r3 (by rw[hsv,hx];exact hr) hown hgrow
theorem fF{T E:TypeId}{x ix:Operand}{b k len:Nat}{kk:IntKind}{i:Nat}[hT:CElem P T E k](hx:osd sl x=some (.app b k len))(hi:osd sl ix=some (.one (ex (.int kk (i:Int)))))(hy:i<len){o:Nat}(ho:i*k=o):
  RT P En n ⟨dst,.indexAddr T x ix,ty,pos,after,guard⟩ sl bx ⟨.ptr b o,[],[]⟩:=
 RT.pure fun ρ h β bx' H=>by
  subst ho;obtain⟨h1,hl⟩:=H x (by simp[Op.operands]) _ hx
  have h6:ρ ix= .int kk (i:Int):=(H ix (by simp[Op.operands]) _ hi).1
  rcases h1 with⟨_,h1⟩|⟨cap,h1,_⟩
  ·omega
  ·refine⟨.pointer (some ⟨β b,0+i*k,none⟩),fun w _=>?_,by rw[Nat.zero_add];rfl,hl.1⟩
   simp only[execOp,h1,h6,Sem.run_bind,mT hT (β b) 0 len cap kk hy w,Result.andThen_ok,Sem.run_pure]
theorem fB{x:Operand}{T E:TypeId}{b k len:Nat}(hx:osd sl x=some (.app b k len))(ht:P.underlying T=some (.slice E)):RT P En n ⟨dst,.call ⟨.builtin .len, #[x], #[T]⟩,ty,pos,after,guard⟩ sl bx ⟨.one (i6 (len:Nat)),[],[]⟩:=
 RT.pure fun ρ h β bx' H=>by
  have h1:=(H x (by simp[Op.operands,Call.operands]) _ hx).1
  refine⟨.int .i64 (len:Nat),fun w _=>?_,rfl,trivial⟩;rcases h1 with⟨hv,rfl⟩|⟨cap,hv,_⟩
  ·simp[execOp,resolve,invoke,builtin,Builtin.len_,hv,run_underlying ht,goInt]
  ·simp[execOp,resolve,invoke,builtin,Builtin.len_,hv,run_underlying ht,goInt]
theorem eZE{T E:TypeId}{x hx:Operand}{b k len:Nat}{kk':IntKind}{j:Nat}[hT:CElem P T E k](h1:osd sl x=some (.app b k len))(h3:osd sl hx=some (.one (ex (.int kk' (j:Int)))))(hj:j≤len)(hj0:0<j):
  RT P En n ⟨dst,.slice T x none (some hx) none,ty,pos,after,guard⟩ sl bx ⟨.app b k j,[],[]⟩:=
 RT.pure fun ρ h β bx' H=>by
  obtain⟨e1,hl⟩:=H x (by simp[Op.operands]) _ h1
  have e3:ρ hx= .int kk' (j:Int):=(H hx (by simp[Op.operands]) _ h3).1
  rcases e1 with⟨_,e1⟩|⟨cap,e1,c1,c2,c3,c4⟩
  ·omega
  ·refine⟨.slice (some ⟨β b,0,none⟩) j cap,fun w _=>?_,.inr ⟨cap,rfl,hj0,oM,c3,c4⟩,hl⟩
   simp only[execOp,Option.map_none,Option.map_some,e1,e3,Sem.run_bind,xQ hT _ len cap _ _ 0 j w (eZD _ _ _ oM w),Result.andThen_ok,Sem.run_pure];rw[Addr.add_mid];simp
theorem cL{T E:TypeId}{x ix:Operand}{b o len cap k:Nat}{kk:IntKind}{i:Nat}[hT:CElem P T E k](hx:osd sl x=some (.own b o len cap))(hi:osd sl ix=some (.one (ex (.int kk (i:Int)))))(hy:i<len){o':Nat}(ho:o+i*k=o'):
  RT P En n ⟨dst,.indexAddr T x ix,ty,pos,after,guard⟩ sl bx ⟨.ptr b o',[],[]⟩:=
 RT.pure fun ρ h β bx' H=>by
  subst ho;obtain⟨h1,hl⟩:=H x (by simp[Op.operands]) _ hx
  obtain⟨cap',h1,hcc,hcm⟩:∃cap',ρ x= .slice (some ⟨β b,o,none⟩) len cap'∧cap≤cap'∧cap'≤maxLen:=h1;have h6:ρ ix= .int kk (i:Int):=(H ix (by simp[Op.operands]) _ hi).1
  refine⟨.pointer (some ⟨β b,o+i*k,none⟩),fun w _=>?_,rfl,hl⟩;simp only[execOp,h1,h6,Sem.run_bind,mT hT (β b) o len cap' kk hy w,Result.andThen_ok,Sem.run_pure]
theorem tR{T:TypeId}{x:Operand}{b k o:Nat}{ps:List Pd}[ht:CRow P T k](hx:osd sl x=some (.ptr b o))(hb:aB bx b=some ps)(hk:o+k≤ps.length){qs:List Pd}(hq:(ps.drop o).take k=qs)(hl:lk b=false:=by rfl):
  RT P En n ⟨dst,.load T x,ty,pos,after,guard⟩ sl bx ⟨.one (cD qs),[b],[]⟩:=by subst hq;exact xX o hx hb ht.ok (by rw[Nat.ble_eq];exact hk) hl
theorem fV{T E:TypeId}{x y:Operand}{kl kc:IntKind}{d m k bytes:Nat}{zs:List Value}[hT:CElem P T E k][hz:CRowZ P E k zs bytes](hx:osd sl x=some (.one (ex (.int kl (m:Int)))))(hy:osd sl y=some (.one (ex (.int kc (m:Int)))))(hd:Nat.blt d 400=true)(hn:aB bx d=none)(hm:m≤1000000000)(hby:Nat.ble bytes 10000=true)(hk:Nat.ble k 10000=true):
  RT P En n ⟨some d,.makeSlice T x y,ty,pos,after,guard⟩ sl bx ⟨.own d 0 m m,[],[(d,(List.replicate m (zs.map ex)).flatten)]⟩:=by
 intro sl' bx' h1 _ h3 w0 h0 c h β a w Q hi hs;have hd:d<400:=Nat.le_of_ble_eq_true hd;have hn':aB bx' d=none:=by rw[h3 d (by simp)];exact hn
 have e1:a.eval x= .int kl (m:Int):=(cH hs (x:=x) (sd:= .one (ex (.int kl (m:Int)))) (by rw[h1 x (by simp[Op.operands])];exact hx)).1
 have e2:a.eval y= .int kc (m:Int):=(cH hs (x:=y) (sd:= .one (ex (.int kc (m:Int)))) (by rw[h1 y (by simp[Op.operands])];exact hy)).1
 obtain⟨inf,z,q1,q2,q3,q4,q5,q6,q7⟩:=hz.get;have hby:=Nat.le_of_ble_eq_true hby;have hk:=Nat.le_of_ble_eq_true hk;have h8:bytes*m≤10000*1000000000:=Nat.mul_le_mul hby hm;have h9:((bytes*m:Nat):Int)≤281474976710656:=oM;rw[Int.natCast_mul] at h9;have hr:=run_make (P:=P) w T E inf z hT.ok.1 q1 q2 kl kc m m oM (Int.le_refl _) (by rw[q5];exact h9) oM
 rw[q4,Int.toNat_natCast,q3,yR zs k q6] at hr;have hall:All2 h (List.replicate m (zs.map ex)).flatten (List.replicate m zs).flatten:=bZl q7 m;unfold Oper.wp;have hrun:(execOp a.eval ⟨some d,.makeSlice T x y,ty,pos,after,guard⟩).run P w= .ok (.value (.slice (some ⟨w.heap.size,0,none⟩) m m)) (w.alloc (.cells (List.replicate m zs).flatten.toArray E)):=by
  simp only[execOp,e1,e2,Sem.run_bind,hr,Result.andThen_ok,Sem.run_pure]
 rw[hrun];refine⟨_,h,upd β d w.heap.size,rfl,hi.alloc d hd hn' hall E,Le.refl _,fun j hj=>?_,?_,?_⟩
 ·exact aV (by rintro rfl;exact hj hn')
 ·exact⟨m,by rw[cK],Nat.le_refl _,by unfold maxLen;omega⟩
 ·show aB ((d,_)::bx') d≠none;rw[aC,if_pos rfl];simp
end
end
section
open Go.RowKit Limb
theorem beqT{a b:Int}(h:a=b):(a==b)=true:=by simp[h]
theorem beqF{a b:Int}(h:a≠b):(a==b)=false:=by simp[h]
theorem bneT{a b:Int}(h:a≠b):(a !=b)=true:=by simp[h]
theorem bneF{a b:Int}(h:a=b):(a !=b)=false:=by simp[h]
class CArr(P:Program)(T:TypeId)(len:outParam Nat)(E:outParam TypeId)(k:outParam Nat):Prop where
 ok:P.underlying T=some (.array len E)∧(P.info? E).map (·.size)=some k
class CStr(P:Program)(T:TypeId):Prop where
 ok:P.underlying T=some .string
section
variable{P:Program}{En:Ev}{n:Nat}{sl:Sl}{bx:Bx}{dst:Option Tmp}{ty:TypeId}{pos:String}{after:Array Edge}{guard:Option (Nat×Bool)}
theorem cZS{x:Operand}{b o:Nat}(hx:osd sl x=some (.ptr b o)):RT P En n ⟨dst,.nilCheck x,ty,pos,after,guard⟩ sl bx ⟨.ptr b o,[],[]⟩:=
 RT.pure fun ρ h β bx' H=>by
  obtain⟨h1,h2⟩:=H x (by simp[Op.operands]) _ hx
  have h1:ρ x= .pointer (some ⟨β b,o,none⟩):=h1;exact⟨ρ x,fun w _=>by simp only[execOp,h1];rfl,h1,h2⟩
theorem bZ3{T E:TypeId}{len k:Nat}(hT:CArr P T len E k)(b o:Nat)(kk:IntKind){i:Nat}(hi:i<len)(w:World):(Instr.indexAt T (.pointer (some ⟨b,o,none⟩)) (.int kk (i:Int))).run P w= .ok (.pointer (some ⟨b,o+i*k,none⟩)) w:=by
 obtain⟨h1,h2⟩:=hT.ok;obtain⟨inf,h3,h4⟩:=Option.map_eq_some_iff.1 h2;have h5:(0:Int)≤(i:Int)∧(i:Int)<(len:Int):=oM;simp only[Instr.indexAt,asIntOf,Sem.run_bind,Sem.run_pure,Result.andThen_ok,run_underlying h1,Instr.sureAddr,if_pos h5,sizeOf,run_typeInfo _ h3,h4];rw[Addr.add_mid,Int.toNat_natCast]
theorem oT{T E:TypeId}{x ix:Operand}{b o len k:Nat}{kk:IntKind}{i:Nat}[hT:CArr P T len E k](hx:osd sl x=some (.ptr b o))(hi:osd sl ix=some (.one (ex (.int kk (i:Int)))))(hy:i<len){o':Nat}(ho:o+i*k=o'):
  RT P En n ⟨dst,.indexAddr T x ix,ty,pos,after,guard⟩ sl bx ⟨.ptr b o',[],[]⟩:=
 RT.pure fun ρ h β bx' H=>by
  subst ho;obtain⟨h1,hl⟩:=H x (by simp[Op.operands]) _ hx
  have h1:ρ x= .pointer (some ⟨β b,o,none⟩):=h1;have h6:ρ ix= .int kk (i:Int):=(H ix (by simp[Op.operands]) _ hi).1
  refine⟨.pointer (some ⟨β b,o+i*k,none⟩),fun w _=>?_,rfl,hl⟩;simp only[execOp,h1,h6,Sem.run_bind,bZ3 hT (β b) o kk hy w,Result.andThen_ok,Sem.run_pure]
theorem cZT{T E:TypeId}{len k:Nat}{xs:List (Nat×Operand)}{ps:List (Nat×List Pd)}{zs:List Value}{rs:List Pd}[hT:CArr P T len E k][hz:CZero P T zs](hp:mH sl xs ps)(hf:pG (fun i=>some (i*k,k)) (zs.map ex) ps=some rs):
  RT P En n ⟨dst,.build T xs.toArray,ty,pos,after,guard⟩ sl bx ⟨.one (cD rs),[],[]⟩:=
 RT.pure fun ρ h β bx' H=>by
  obtain⟨h1,h2⟩:=hT.ok;obtain⟨inf,h3,h4⟩:=Option.map_eq_some_iff.1 h2;obtain⟨us,u1,u2⟩:=sP (ρ:=ρ) (β:=β) (bx':=bx') hp (fun x hx s hs=>H x.2 (by simp[Op.operands];exact⟨x.1,hx⟩) s hs) hf (mL hz.ok.2)
  refine⟨.agg us.toArray,fun w _=>?_,⟨us,rfl,u2⟩,trivial⟩;obtain⟨z,z1,z2⟩:=lS hz.ok w;have hmap:(xs.toArray.map fun x=>(x.1,ρ x.2)).toList=xs.map fun x=>(x.1,ρ x.2):=by simp
  simp only[execOp,Instr.build,Sem.run_bind,z1,Result.andThen_ok,run_underlying h1,sizeOf,run_typeInfo _ h3,Sem.run_pure,h4,z2];rw[hmap,u1];rfl
end
section
variable{P:Program}(w:World)
theorem bZ5{T:TypeId}(_hT:P.underlying T=some .string)(x y:Operand)(a b:ByteArray):(do eqGuard .eql T x y (.string a) (.string b);Go.binOp .eql T (.string a) (.string b):Sem Value).run P w= .ok (.bool (a.toList==b.toList)) w:=by
 simp[eqGuard,binOp_string_eql]
theorem cZR{T:TypeId}(_hT:P.underlying T=some .string)(x y:Operand)(a b:ByteArray)(h:a.size+b.size≤1000000):(do eqGuard .add T x y (.string a) (.string b);Go.binOp .add T (.string a) (.string b):Sem Value).run P w= .ok (.string (a++b)) w:=by
 have:¬((a.size+b.size:Nat):Int)>IntKind.i64.max:=by simp[IntKind.max,IntKind.bits];omega
 simp only[eqGuard,binOp_string_add,Op.stringOp,if_neg this];simp
end
def byt(x:Nat):Pd:=ex (.int .u8 (x:Int))
instance(x:Nat):C1 (byt x):=⟨fun _ _ h=>by rw[h];rfl⟩
def txt(l:List Nat):ByteArray:=(l.map fun(x:Nat)=>(x:Int)).foldl (fun r n=>r.push (UInt8.ofNat n.toNat)) ByteArray.empty
theorem eZn{h:GH}:∀{l:List Nat} {vs:List Value},All2 h (l.map byt) vs→vs=l.map fun(y:Nat)=>Value.int .u8 (y:Int)
 |[],[],_=>rfl
 |x::l,v::vs,⟨a,_,c⟩=>by have:v= .int .u8 (x:Int):=a;rw[this,eZn c];rfl
 |[],_::_,h=>h.elim
 |_::_,[],h=>h.elim
section
variable{P:Program}{En:Ev}{n:Nat}{sl:Sl}{bx:Bx}{dst:Option Tmp}{ty:TypeId}{pos:String}{after:Array Edge}{guard:Option (Nat×Bool)}
theorem jZu{w:World}{b o:Nat}{vs:List Value}(h:w.rangeAt b o vs):(loadCells ⟨b,o,none⟩ vs.length).run P w= .ok vs.toArray w:=by
 exact run_loadCells_list w ⟨b,o,none⟩ vs (fun j v hj=>by rw[Addr.add_mid];exact h j v hj)
theorem fZG{S T E:TypeId}{x:Operand}{b len cap:Nat}{l:List Nat}(hS:P.underlying S=some (.slice E))(hE:P.underlying E=some (.int .u8))(hT:P.underlying T=some .string)(hx:osd sl x=some (.own b 0 len cap))(hb:aB bx b=some (l.map byt))(hl:l.length=len)(h0:0<len)(hlk:lk b=false:=by rfl):
  RT P En n ⟨dst,.convert S T x,ty,pos,after,guard⟩ sl bx ⟨.one (ex (.string (txt l))),[b],[]⟩:=by
 subst hl;intro sl' bx' h1 h2 _ w0 h0' c h β a w Q hi hs;obtain⟨cap',hx',_,_⟩:∃cap',a.eval x= .slice (some ⟨β b,0,none⟩) l.length cap'∧cap≤cap'∧cap'≤maxLen:=(cH hs (x:=x) (sd:= .own b 0 l.length cap) (by rw[h1 x (by simp[Op.operands])];exact hx)).1
 obtain⟨_,_,vs,rest,T',hg,ha,_⟩:=hi.box0 b _ (by rw[h2 b (by simp)];exact hb) (by intro h;simp at h;subst h;simp at h0) hlk
 have hv:=eZn ha;have hr:w.rangeAt (β b) 0 vs:=tY hg (by simp)
 have hlc:=jZu (P:=P) hr;have hlen:vs.length=l.length:=by rw[hv];simp
 rw[hlen,hv,show(l.map fun(y:Nat)=>Value.int .u8 (y:Int))=(l.map fun(x:Nat)=>(x:Int)).map (Value.int .u8) by simp] at hlc
 unfold Oper.wp;have:(execOp a.eval ⟨dst,.convert S T x,ty,pos,after,guard⟩).run P w= .ok (.value (.string (txt l))) w:=by
  simp only[execOp,hx',Sem.run_bind,run_convert_bytes_string w S T E _ _ _ hS hE hT,run_bytesToString w _ _ _ _ hlc,Result.andThen_ok,Sem.run_pure];rfl
 rw[this];exact⟨_,h,β,rfl,hi,Le.refl _,fun _ _=>rfl,rfl,trivial⟩
end
end
section
open Go.RowKit Limb
def WpS(P:Program)(En:Ev)(n:Nat)(w0:World)(h0:GH)(c:Cx)(ops:Array Oper)(l:List Nat)(K:St→Prop)(σ:St):Prop:=
 ∀(Q:Exit→Act→World→Prop) (a:Act) (w:World),Gam En n w0 h0 c σ a w→(∀τ a' w',K τ→Gam En n w0 h0 c τ a' w'→Q .normal a' w')→wpOps P ops Q l a w
section
variable{P:Program}{En:Ev}{n:Nat}{w0:World}{h0:GH}{c:Cx}{ops:Array Oper}{l:List Nat}{σ τ:St}
theorem WpD.seqR{id:Nat}{K:Exit→St→Prop}(h:WpS P En n w0 h0 c ops (List.range ops.size) (K .normal) σ):WpD P En n w0 h0 c (.region id ops false) K σ:=
 fun Q a w hg hQ=>wp_region (h Q a w hg fun τ a' w' hk hg'=>hQ .normal τ a' w' hk hg')
variable{K:St→Prop}
theorem WpS.nil(h:K σ):WpS P En n w0 h0 c ops [] K σ:=fun _ a w hg hQ=>hQ σ a w h hg
theorem WpS.cons{i:Nat}{o:Oper}{e:Eff}(hi:ops[i]? =some o)(hd:∀d,o.dst=some d→d<n)(h:LT P En n ops o σ.sl σ.bx e)(t:WpS P En n w0 h0 c ops l K (kA σ o e)):WpS P En n w0 h0 c ops (i::l) K σ:=by
 intro Q a w hg hQ;obtain⟨h',β,hinv,hslots⟩:=hg;rw[wpOps_cons];unfold wpOp;rw[hi];refine h σ.sl σ.bx (fun _ _=>rfl) (fun _ _=>rfl) (fun _ _=>rfl) w0 h0 c h' β a w Q hinv hslots _ (fun a' w' hh=>?_);obtain⟨v,h'',β',rfl,q1,q2,q3,q4,q5⟩:=hh;exact t Q _ _ (sO hd hslots q1 q2 q3 q4 q5) hQ
theorem WpS.sub(hs:Sub σ τ)(h:WpS P En n w0 h0 c ops l K τ):WpS P En n w0 h0 c ops l K σ:=fun Q a w hg hQ=>h Q a w (hs _ _ _ _ _ _ _ hg) hQ
theorem iZi{h:GH}{β:Nat→Nat}{a:Act}(hs:Slots n h β σ.sl σ.bx a){t:Nat}(ht:t<n):∃v,a.tmps[t]? =some v:=by
 have:t<a.tmps.size:=by rw[hs.size];exact ht
 exact⟨_,Array.getElem?_eq_getElem this⟩
theorem pS{h:GH}{β:Nat→Nat}{a:Act}{t b:Nat}(hs:Slots n h β σ.sl σ.bx a)(ht:t<n)(hb:aB σ.bx b≠none):Slots n h β ((t,.pin b (β b))::σ.sl) σ.bx a:=by
 refine⟨hs.defers,hs.size,fun t' sd h'=>?_⟩;rw[aC] at h';split at h'
 ·rename_i e
  subst e;cases h'
  obtain⟨v,hv⟩:=iZi hs ht;exact⟨v,hv,rfl,hb⟩
 ·exact hs.slot t' sd h'
theorem WpD.pin{co:Code}{K:Exit→St→Prop}{t b:Nat}(ht:Nat.blt t n=true)(hb:aB σ.bx b≠none)(h:∀x,WpD P En n w0 h0 c co K ⟨(t,.pin b x)::σ.sl,σ.bx⟩):WpD P En n w0 h0 c co K σ:=by
 rintro Q a w ⟨h',β,hi,hs⟩ hQ;exact h (β b) Q a w ⟨h',β,hi,pS hs (Nat.le_of_ble_eq_true ht) hb⟩ hQ
def gvl(blk len cap:Nat):Value:=match len with
 |0=> .slice none 0 0
 |len+1=> .slice (some ⟨blk,0,none⟩) (len+1) cap
theorem Sub.toApp{t p q b k len cap blk x:Nat}(h1:aB σ.sl t=some (.one (ex (gvl blk len cap))))(h2:aB σ.sl p=some (.pin b blk))(h3:aB σ.sl q=some (.pin (b+250) x))(h4:0<len→len≤cap∧cap≤maxLen∧x=cap*k):Sub σ ⟨(t,.app b k len)::σ.sl,σ.bx⟩:=by
 rintro En n w0 h0 c a w ⟨h,β,hi,hs⟩;obtain⟨v,r1,r2,_⟩:=hs.slot t _ h1;obtain⟨_,_,r3,l3⟩:=hs.slot p _ h2;obtain⟨_,_,r4,l4⟩:=hs.slot q _ h3;have r2:v=gvl blk len cap:=r2;have r3:β b=blk:=r3;have r4:β (b+250)=x:=r4;refine⟨h,β,hi,hs.defers,hs.size,fun t' sd ht=>?_⟩;rw[aC] at ht;split at ht
 ·rename_i e
  subst e;cases ht
  refine⟨v,r1,?_,l3,l4⟩;cases len with
  |zero=>exact .inl ⟨r2,rfl⟩
  |succ len=>
   obtain⟨g1,g2,g3⟩:=h4 oM;exact .inr ⟨cap,by rw[r3];exact r2,oM,g1,g2,by rw[r4];exact g3.symm⟩
 ·exact hs.slot t' sd ht
theorem WpS.fromApp{t p q b k len:Nat}(hp:Nat.blt p n=true)(hq:Nat.blt q n=true)(h1:aB σ.sl t=some (.app b k len))(hlen:0<len)
  (h:∀blk cap x,(len≤cap∧cap≤maxLen∧x=cap*k)→WpS P En n w0 h0 c ops l K ⟨(t,.one (ex (gvl blk len cap)))::(p,.pin b blk)::(q,.pin (b+250) x)::σ.sl,σ.bx⟩):WpS P En n w0 h0 c ops l K σ:=by
 rintro Q a w ⟨h',β,hi,hs⟩ hQ;obtain⟨v,r1,r2,l1,l2⟩:=hs.slot t _ h1;rcases r2 with⟨_,e0⟩|⟨cap,e1,e2,e3,e4,e5⟩
 ·omega
 have s1:=pS hs (Nat.le_of_ble_eq_true hq) l2;have s2:=pS (σ:=⟨(q,.pin (b+250) (β (b+250)))::σ.sl,σ.bx⟩) (t:=p) s1 (Nat.le_of_ble_eq_true hp) l1;refine h (β b) cap (β (b+250)) ⟨e3,e4,e5.symm⟩ Q a w ⟨h',β,hi,hs.defers,hs.size,fun t' sd ht=>?_⟩ hQ;rw[aC] at ht;split at ht
 ·rename_i e
  subst e;cases ht
  refine⟨v,r1,?_,trivial⟩;show v=gvl (β b) len cap
  cases len with
  |zero=>omega
  |succ len=>exact e1
 ·exact s2.slot t' sd ht
theorem Sub.pubCell{b d p k len cap blk:Nat}{p0:Pd}{ps:List Pd}{sl:Sl}{bx0:Bx}(hb0:Nat.blt b 1000=true)(hb:aB σ.bx b=some ps)(hlen:ps.length=len*k)(hd:aB bx0 d=some [p0,ex (gvl blk len cap)])(hp:aB σ.sl p=some (.pin b blk))(hl0:0<len)(hlc:len≤cap)(hcm:cap≤maxLen)
  (h2:subBx σ.bx bx0) (h3:aB bx0 b=none) (h4:LKeep σ.bx bx0:=by exact jK rfl) (h5:lk b=false:=by rfl) (h6:lk d=false:=by rfl) (h1:mS σ.sl ((d,[p0,slc k ps len])::bx0) sl):Sub σ ⟨sl,(d,[p0,slc k ps len])::bx0⟩:=by
 rintro En n w0 h0 c a w ⟨h,β,hi,hs⟩;have hb0:b<1000:=Nat.le_of_ble_eq_true hb0;obtain⟨h',vs,hi',hle,hall,hcell⟩:=hi.pub b hb0 hb h2 h3 h4 h5;obtain⟨_,_,r3,_⟩:=hs.slot p _ hp;have r3:β b=blk:=r3;have hslc:(slc k ps len).p h' (gvl blk len cap):=by
  cases len with
  |zero=>omega
  |succ len=>exact⟨some ⟨blk,0,none⟩,cap,rfl,hlc,hcm,(fun h=>by cases h),hlen,fun _=>⟨blk,0,vs,rfl,hall,fun j u hu=>by rw[Nat.zero_add,←r3];exact hcell j u hu⟩⟩
 refine⟨h',β,⟨hi'.env,hi'.holds,hi'.le0,hi'.fresh,hi'.below,hi'.dis,hi'.pin,fun i qs hq hqs=>?_,fun i j qs rs a1 a2 b1 b2=>?_⟩,hs.defers,hs.size,fun t sd ht=>?_⟩
 ·have hq2:aB ((d,[p0,slc k ps len])::bx0) i=some qs:=hq
  by_cases e:d=i
  ·subst e
   rw[aC,if_pos rfl] at hq2;have hqe:=Option.some.inj hq2;rw[←hqe];obtain⟨r1,r2,us,rest,T,r3',r4,r5⟩:=hi'.box0 _ _ hd (by simp) h6
   refine⟨r1,r2,us,rest,T,by rw[dW h6];exact r3',?_,r5,cZ h6 _ _ _⟩
   match us,r4 with
   |[u0,u1],⟨g1,g2,g3,g4,g5⟩=>
    have g3:u1=gvl blk len cap:=g3;exact⟨g1,g2,by rw[g3];exact hslc,g4,trivial⟩
  ·rw[aC,if_neg e] at hq2
   obtain⟨p1,p2,us,rs,T',p3,p4,p5,p6⟩:=hi'.box i qs hq2 hqs;exact⟨p1,p2,us,rs,T',p3,p4,p5,jJ p6 fun r hr=>by rw[aC];split<;>simp;exact hr⟩
 ·have hne:∀i qs,aB ((d,[p0,slc k ps len])::bx0) i=some qs→qs≠[]→∃qs',aB bx0 i=some qs'∧qs'≠[]:=fun i qs hq hqs=>by
   rw[aC] at hq;split at hq
   ·rename_i e
    subst e;exact⟨_,hd,by simp⟩
   ·exact⟨qs,hq,hqs⟩
  obtain⟨q1,e1,f1⟩:=hne i qs a1 a2;obtain⟨q2,e2,f2⟩:=hne j rs b1 b2;exact hi'.inj i j _ _ e1 f1 e2 f2
 ·obtain⟨⟨sd',g1,g2⟩,g3⟩:=pP h1 ht
  obtain⟨v,r1,r2,_⟩:=hs.slot t sd' g1;exact⟨v,r1,SD.ok_mono (g2.ok r2) g3 hle (fun _ _=>rfl),g3⟩
section
variable{sl:Sl}{bx:Bx}
theorem WpS.S{i d:Nat}{op:Op}{ty:TypeId}{pos:String}{after:Array Edge}{sd:SD}{rb:List Nat}{wb bx':Bx}(hi:ops[i]? =some ⟨some d,op,ty,pos,after,none⟩)(hd:Nat.blt d n=true)(h:RT P En n ⟨some d,op,ty,pos,after,none⟩ sl bx ⟨sd,rb,wb⟩)(hb:wb++bx=bx')(t:WpS P En n w0 h0 c ops l K ⟨(d,sd)::sl,bx'⟩):WpS P En n w0 h0 c ops (i::l) K ⟨sl,bx⟩:=by
 subst hb;exact WpS.cons (σ:=⟨sl,bx⟩) hi (fun d' h'=>by cases h';exact Nat.le_of_ble_eq_true hd) (LT.plain rfl h) t
theorem WpS.N{i:Nat}{op:Op}{ty:TypeId}{pos:String}{after:Array Edge}{sd:SD}{rb:List Nat}{wb bx':Bx}(hi:ops[i]? =some ⟨none,op,ty,pos,after,none⟩)(h:RT P En n ⟨none,op,ty,pos,after,none⟩ sl bx ⟨sd,rb,wb⟩)(hb:wb++bx=bx')(t:WpS P En n w0 h0 c ops l K ⟨sl,bx'⟩):WpS P En n w0 h0 c ops (i::l) K ⟨sl,bx⟩:=by
 subst hb;exact WpS.cons (σ:=⟨sl,bx⟩) hi (fun d' h'=>by cases h') (LT.plain rfl h) t
end
end
instance(blk len cap:Nat):C1 (ex (gvl blk len cap)):=⟨fun _ _ h=>by rw[h];cases len<;>rfl⟩
end
section
open Go.RowKit Limb
section
variable{P:Program}{En:Ev}{n:Nat}{w0:World}{h0:GH}{c:Cx}{K:Exit→St→Prop}{σ:St}{full rest:List Oper}{acc:List Eff}{sl:Sl}{bx:Bx}
end
theorem AllV.append{h:GH}:∀{ps qs:List Pd} {us vs:List Value},AllV h ps us→AllV h qs vs→AllV h (ps++qs) (us++vs)
 |[],_,[],_,_,k=>k
 |_::_,_,_::_,_,⟨a,b⟩,k=>⟨a,AllV.append b k⟩
 |[],_,_::_,_,h,_=>h.elim
 |_::_,_,[],_,h,_=>h.elim
def cl(f:FuncId)(cs:List (List Pd)):Pd:=⟨fun h v=>∃us:List Value,v= .func (.func f) #[] us.toArray∧AllV h (cs.map cpR) us,fun _ _ _ hl ⟨us,e,a⟩=>⟨us,e,a.mono hl⟩⟩
instance(f:FuncId)(cs:List (List Pd)):C1 (cl f cs):=⟨fun _ _ ⟨_,e,_⟩=>by rw[e];rfl⟩
theorem pZ5(f:FuncId):PLe (ex (.func (.func f) #[] #[])) (cl f []):=fun _ _ e=>⟨[],e,trivial⟩
section
variable{P:Program}{En:Ev}{n:Nat}{sl:Sl}{bx:Bx}{dst:Option Tmp}{ty:TypeId}{pos:String}{after:Array Edge}{guard:Option (Nat×Bool)}
theorem oV{f:FuncId}{g:Nat}{xs:List Operand}{ats:Array TypeId}{ps:List Pd}{cs:List (List Pd)}{r:Pd}[hb:CBody P f](hg:aB sl g=some (.one (cl f cs)))(hf:Fn P En f (ps++cs.map cpR) r)(ha:args sl xs ps):
  RT P En n ⟨dst,.call ⟨.value (.tmp g),xs.toArray,ats⟩,ty,pos,after,guard⟩ sl bx ⟨.one r,[],[]⟩:=by
 intro sl' bx' h1 _ _ w0 h0 c h β a w Q hi hs;have hargs:AllV h ps (xs.map a.eval):=oG ha (fun x hx s hxs=>cH hs (by rw[h1 x (by simp[Op.operands,Call.operands,hx])];exact hxs))
 obtain⟨us,hv,hcap⟩:(cl f cs).p h (a.eval (.tmp g)):=(cH hs (x:= .tmp g) (sd:= .one (cl f cs)) (by rw[h1 (.tmp g) (by simp[Op.operands,Call.operands])];exact hg)).1
 unfold Oper.wp;have hrun:(execOp a.eval ⟨dst,.call ⟨.value (.tmp g),xs.toArray,ats⟩,ty,pos,after,guard⟩).run P w= .ok (.enter f (xs.map a.eval++us).toArray) w:=by
  simp only[execOp,resolve,hv,Deferred.ofValue,Sem.run_bind,Sem.run_pure,Result.andThen_ok,invoke];rw[show(#[]++xs.toArray.map a.eval++us.toArray)=(xs.map a.eval++us).toArray by simp]
  exact gL hb.ok _ w
 rw[hrun];refine Calls.mono (hf h w _ hi.envNow hi.holds (hargs.append hcap)) ?_;rintro e w' ⟨v,h',rfl,g1,g2,g3,g4,g5⟩;exact⟨v,h',β,rfl,hi.call g1 g2 g3 g4,g1,fun _ _=>rfl,g5,trivial⟩
theorem nV{f:FuncId}{x:Operand}{ps:List Pd}(hx:osd sl x=some (.one (cpR ps))):RT P En n ⟨dst,.makeFunc (.func f) #[] #[x],ty,pos,after,guard⟩ sl bx ⟨.one (cl f [ps]),[],[]⟩:=
 RT.pure fun ρ h β bx' H=>by
  have h1:(cpR ps).p h (ρ x):=(H x (by simp[Op.operands]) _ hx).1
  refine⟨.func (.func f) #[] #[ρ x],fun w _=>?_,⟨[ρ x],rfl,h1,trivial⟩,trivial⟩;simp[execOp,Instr.makeFunc]
end
section
variable{σ:St}
theorem All2.last{h:GH}{p:Pd}:∀{ps:List Pd} {vs:List Value},All2 h (ps++[p]) vs→∃us u,vs=us++[u]∧All2 h ps us∧p.p h u∧u.oneCell'=true
 |[],[u],⟨a,b,_⟩=>⟨[],u,rfl,trivial,a,b⟩
 |[],[],h=>h.elim
 |[],_::_::_,⟨_,_,h⟩=>h.elim
 |_::_,[],h=>h.elim
 |_::ps,v::vs,⟨a,b,r⟩=>by
  obtain⟨us,u,e,k1,k2,k3⟩:=All2.last r;exact⟨v::us,u,by rw[e];rfl,⟨a,b,k1⟩,k2,k3⟩
theorem All2.snoc{h:GH}{p:Pd}{u:Value}(hp:p.p h u)(hu:u.oneCell'=true):∀{ps:List Pd} {us:List Value},All2 h ps us→All2 h (ps++[p]) (us++[u])
 |[],[],_=>⟨hp,hu,trivial⟩
 |_::_,_::_,⟨a,b,r⟩=>⟨a,b,All2.snoc hp hu r⟩
 |[],_::_,h=>h.elim
 |_::_,[],h=>h.elim
theorem Sub.pubLast{b d p k len cap blk:Nat}{L:List Pd}{ps:List Pd}{sl:Sl}{bx0:Bx}(hb0:Nat.blt b 1000=true)(hb:aB σ.bx b=some ps)(hlen:ps.length=len*k)(hd:aB bx0 d=some (L++[ex (gvl blk len cap)]))(hp:aB σ.sl p=some (.pin b blk))(hl0:0<len)(hlc:len≤cap)(hcm:cap≤maxLen)
  (h2:subBx σ.bx bx0) (h3:aB bx0 b=none) (h1:mS σ.sl ((d,L++[slc k ps len])::bx0) sl) (h4:LKeep σ.bx bx0:=by exact jK rfl) (h5:lk b=false:=by rfl) (h6:lk d=false:=by rfl):Sub σ ⟨sl,(d,L++[slc k ps len])::bx0⟩:=by
 rintro En n w0 h0 c a w ⟨h,β,hi,hs⟩;have hb0:b<1000:=Nat.le_of_ble_eq_true hb0;obtain⟨h',vs,hi',hle,hall,hcell⟩:=hi.pub b hb0 hb h2 h3 h4 h5;obtain⟨_,_,r3,_⟩:=hs.slot p _ hp;have r3:β b=blk:=r3;have hslc:(slc k ps len).p h' (gvl blk len cap):=by
  cases len with
  |zero=>omega
  |succ len=>exact⟨some ⟨blk,0,none⟩,cap,rfl,hlc,hcm,(fun h=>by cases h),hlen,fun _=>⟨blk,0,vs,rfl,hall,fun j u hu=>by rw[Nat.zero_add,←r3];exact hcell j u hu⟩⟩
 refine⟨h',β,⟨hi'.env,hi'.holds,hi'.le0,hi'.fresh,hi'.below,hi'.dis,hi'.pin,fun i qs hq hqs=>?_,fun i j qs rs a1 a2 b1 b2=>?_⟩,hs.defers,hs.size,fun t sd ht=>?_⟩
 ·have hq2:aB ((d,L++[slc k ps len])::bx0) i=some qs:=hq
  by_cases e:d=i
  ·subst e
   rw[aC,if_pos rfl] at hq2;have hqe:=Option.some.inj hq2;rw[←hqe];obtain⟨r1,r2,us,rest,T,r3',r4,r5⟩:=hi'.box0 _ _ hd (by simp) h6
   refine⟨r1,r2,us,rest,T,by rw[dW h6];exact r3',?_,r5,cZ h6 _ _ _⟩
   obtain⟨us',u,rfl,g1,g2,g3⟩:=r4.last;have g2:u=gvl blk len cap:=g2;exact All2.snoc (by rw[g2];exact hslc) g3 g1
  ·rw[aC,if_neg e] at hq2
   obtain⟨p1,p2,us,rs,T',p3,p4,p5,p6⟩:=hi'.box i qs hq2 hqs;exact⟨p1,p2,us,rs,T',p3,p4,p5,jJ p6 fun r hr=>by rw[aC];split<;>simp;exact hr⟩
 ·have hne:∀i qs,aB ((d,L++[slc k ps len])::bx0) i=some qs→qs≠[]→∃qs',aB bx0 i=some qs'∧qs'≠[]:=fun i qs hq hqs=>by
   rw[aC] at hq;split at hq
   ·rename_i e
    subst e;exact⟨_,hd,by simp⟩
   ·exact⟨qs,hq,hqs⟩
  obtain⟨q1,e1,f1⟩:=hne i qs a1 a2;obtain⟨q2,e2,f2⟩:=hne j rs b1 b2;exact hi'.inj i j _ _ e1 f1 e2 f2
 ·obtain⟨⟨sd',g1,g2⟩,g3⟩:=pP h1 ht
  obtain⟨v,r1,r2,_⟩:=hs.slot t sd' g1;exact⟨v,r1,SD.ok_mono (g2.ok r2) g3 hle (fun _ _=>rfl),g3⟩
end
end
end Go.Proofs.YtfmjdlogjmofbaaGreatDoor

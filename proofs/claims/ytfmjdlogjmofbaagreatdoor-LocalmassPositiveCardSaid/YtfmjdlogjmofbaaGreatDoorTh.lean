/- The constituents of a decomposition at an odd prime. (With LT.skipU.) -/
import Derived.Test.YtfmjdlogjmofbaaGreatDoorJ
import Derived.Test.YtfmjdlogjmofbaaGreatDoorHg
import Derived.Test.YtfmjdlogjmofbaaGreatDoorK
import Derived.Test.YtfmjdlogjmofbaaGreatDoorTc
import Derived.Test.YtfmjdlogjmofbaaGreatDoorV
import Derived.Test.YtfmjdlogjmofbaaGreatDoorW
set_option maxHeartbeats 4000000
set_option maxRecDepth 3000
namespace Go.Proofs.YtfmjdlogjmofbaaGreatDoor
section
open Go.RowKit Limb Det Num
theorem oU{e:Nat→List Pd}{k o:Nat}{q:Pd}:∀{m c:Nat},(∀c,c<m→(e c).length=k)→c<m→o<k→(rowL e m).set (c*k+o) q=rowL (fun j=>if j=c then(e c).set o q else e j) m
 |0,_,_,h,_=>oM
 |m+1,c,h,hc,ho=>by
  have hl:=cX (e:=e) (k:=k) (m:=m) fun c hc=>h c oM;rw[rowL,rowL,List.set_append]
  by_cases e1:c=m
  ·subst e1
   rw[if_neg oM,hl,Nat.add_sub_cancel_left,if_pos rfl];congr 1
   exact cY fun j hj=>by rw[if_neg oM]
  ·have h2:c*k+k≤m*k:=by rw[←Nat.succ_mul];exact Nat.mul_le_mul_right _ oM
   rw[if_pos oM,if_neg (fun h=>e1 h.symm),oU (fun c hc=>h c oM) oM ho]
theorem lU {e : Nat → List Pd} {k o m c : Nat} {q : Pd} (h : ∀ c, c < m → (e c).length = k) (hc : c < m) (ho : o < k) (hq : (e c)[o]? = some q) : (rowL e m)[c * k + o]? = some q := by
 have h1 := congrArg (fun l => l[o]?) (fY (e := e) (k := k) (m := m) (c := c) h hc);simp only [List.getElem?_take, List.getElem?_drop, if_pos ho] at h1;rw [h1]; exact hq
theorem tU(f:Nat→List Pd):∀n,rows f n=rowL f n
 |0=>rfl
 |n+1=>by rw[gB,rowL,tU f n]
def cU(g:Nat→Co)(i:Nat)(c:Co):Nat→Co:=fun j=>if j=i then c else g j
abbrev CS:=(Nat→Co)×Nat
def cs1(E:Nat)(x:CS):CS:=if x.2=0∨(x.1 (x.2-1)).e≠(E:Int) then(cU x.1 x.2 ⟨(E:Int),0,1,false,0⟩,x.2+1) else x
def cs2(l:Int)(y:CS):CS:=(cU y.1 (y.2-1) ⟨(y.1 (y.2-1)).e,(y.1 (y.2-1)).d+1,(y.1 (y.2-1)).s*l,(y.1 (y.2-1)).o,(y.1 (y.2-1)).y⟩,y.2)
def csF(E:Nat→Nat)(a:Nat→Int)(p:Nat):Nat→CS
 |0=>(fun _=>⟨0,0,1,false,0⟩,0)
 |i+1=>cs2 (fG (a i) p) (cs1 (E i) (csF E a p i))
structure CsB(i:Nat)(x:CS):Prop where
 n:x.2≤i
 d:∀j,j<x.2→0≤(x.1 j).d∧(x.1 j).d≤(i:Int)
 s:∀j,j<x.2→-1≤(x.1 j).s∧(x.1 j).s≤1
theorem CsB.one{i E:Nat}{x:CS}(h:CsB i x):0<(cs1 E x).2∧(cs1 E x).2≤i+1∧(∀j,j<(cs1 E x).2→0≤((cs1 E x).1 j).d∧((cs1 E x).1 j).d≤(i:Int))∧∀j,j<(cs1 E x).2→-1≤((cs1 E x).1 j).s∧((cs1 E x).1 j).s≤1:=by
 have h1:=h.n;unfold cs1
 by_cases c:x.2=0∨(x.1 (x.2-1)).e≠(E:Int)
 ·rw[if_pos c]
  refine⟨Nat.succ_pos _,oD,fun j hj=>?_,fun j hj=>?_⟩
  ·dsimp only at hj ⊢
   unfold cU
   by_cases e:j=x.2
   ·rw[if_pos e];exact⟨Int.le_refl 0,oD⟩
   ·rw[if_neg e];exact h.d j oM
  ·dsimp only at hj ⊢
   unfold cU
   by_cases e:j=x.2
   ·rw[if_pos e];exact⟨by dsimp only;omega,oD⟩
   ·rw[if_neg e];exact h.s j oM
 ·rw[if_neg c]
  exact⟨oM,oM,h.d,h.s⟩
theorem jZy(a:Int)(p:Nat): -1≤fG a p∧fG a p≤1:=by
 unfold fG;rcases aZO (a%(p:Int)).toNat p with h|h|h<;>rw[h]<;>decide
theorem fZE{x y:Int}(hx: -1≤x∧x≤1)(hy: -1≤y∧y≤1): -1≤x*y∧x*y≤1:=by
 rcases(show x= -1∨x=0∨x=1 by omega) with h|h|h<;>subst h<;>omega
theorem kZh(E:Nat→Nat)(a:Nat→Int)(p:Nat):∀i,CsB i (csF E a p i)
 |0=>⟨Nat.le_refl 0,fun j hj=>absurd hj (by show ¬j<0;omega),fun j hj=>absurd hj (by show ¬j<0;omega)⟩
 |i+1=>by
  obtain⟨h1,h2,h3,h4⟩:=(kZh E a p i).one (E:=E i);refine⟨h2,fun j hj=>?_,fun j hj=>?_⟩
  ·have hj:j<(cs1 (E i) (csF E a p i)).2:=hj
   show 0≤(cU _ _ _ j).d∧(cU _ _ _ j).d≤_
   unfold cU
   by_cases e:j=(cs1 (E i) (csF E a p i)).2-1
   ·rw[if_pos e]
    have:=h3 ((cs1 (E i) (csF E a p i)).2-1) oM;dsimp only;omega
   ·rw[if_neg e]
    have:=h3 j hj;omega
  ·have hj:j<(cs1 (E i) (csF E a p i)).2:=hj
   show-1≤(cU _ _ _ j).s∧(cU _ _ _ j).s≤_
   unfold cU
   by_cases e:j=(cs1 (E i) (csF E a p i)).2-1
   ·rw[if_pos e]
    exact fZE (h4 ((cs1 (E i) (csF E a p i)).2-1) oM) (jZy _ _)
   ·rw[if_neg e];exact h4 j hj
theorem cZz(g:Nat→Co)(i:Nat)(c:Co)(n:Nat):rowL (fun j=>if j=i then coc c else ccs g j) n=rowL (ccs (cU g i c)) n:=cY fun j _=>by
 unfold ccs cU
 by_cases e:j=i
 ·rw[if_pos e,if_pos e]
 ·rw[if_neg e,if_neg e]
theorem eZc(g:Nat→Co)(i:Nat)(c c':Co):cU (cU g i c) i c'=cU g i c':=by
 funext j
 unfold cU;split<;>rfl
theorem eZa{g:Nat→Co}{i n:Nat}(hi:i<n)(d:Int):(rowL (ccs g) n).set (i*5+1) (i6 d)=rowL (ccs (cU g i ⟨(g i).e,d,(g i).s,(g i).o,(g i).y⟩)) n:=by
 rw[oU (e:=ccs g) (k:=5) (fun _ _=>rfl) hi oM];exact cZz g i ⟨(g i).e,d,(g i).s,(g i).o,(g i).y⟩ n
theorem dZZ{g:Nat→Co}{i n:Nat}(hi:i<n)(s:Int):(rowL (ccs g) n).set (i*5+2) (i6 s)=rowL (ccs (cU g i ⟨(g i).e,(g i).d,s,(g i).o,(g i).y⟩)) n:=by
 rw[oU (e:=ccs g) (k:=5) (fun _ _=>rfl) hi oM];exact cZz g i ⟨(g i).e,(g i).d,s,(g i).o,(g i).y⟩ n
theorem sX(g:Nat→Co)(c:Nat)(x:Co):rowL (ccs (cU g c x)) (c+1)=rowL (ccs g) c++coc x:=by
 rw[rowL,cY (e':=ccs g) fun j hj=>by unfold ccs cU;rw[if_neg oM]]
 congr 1
 unfold ccs cU;rw[if_pos rfl]
section
variable(En:Ev)
theorem aZn(E:Nat→Nat)(a:Nat→Int)(n p:Nat)(hn:1≤n)(hn8:n≤8)(hp:smP (p:Int)=true)(h3:3≤p)(hp2:p≤9973)(hE:∀i,i<n→E i≤60)(hs:∀i,i+1<n→E i≤E (i+1))(ha:∀i,i<n→(a i).tmod (p:Int)≠0):Fn PZ En 31 [cD [i6 p,jC,slc 5 (rowL (fun i=>uT (E i) (a i)) n) n]] (dK [slc 5 (rowL (ccs (csF E a p n).1) (csF E a p n).2) (csF E a p n).2,ex (.bool true)]):=by
 have C1:=rodd En (p:Int) hp oM;have C2:=lZY En E a n p hn hn8 oM hE hs ha;have hrow:∀i,i<n→((rowL (fun i=>uT (E i) (a i)) n).drop (i*5)).take 5=uT (E i) (a i):=fun i hi=>fY (fun _ _=>rfl) hi;generalize hL:rowL (fun i=>uT (E i) (a i)) n=L at*;refine aA Tryz.func31 rfl Tryz.ntmps31 rfl ?_;intro w0 h0;refine vS<|vB jj<|ja jj<|vZ jj<|js<|vS<|vX jj<|vC C1 ⟨jj,trivial⟩<|jS (bNo jj)<|jm jj<|vY jj<|vY jj<|jg (aQ C2 ⟨jj,jj,trivial⟩)<|jg (bNo jj)<|vQ jj<|jn<|jf jj<|jp<|vS<|vZ jj<|js<|vS<|vX jj<|jE jj<|jm jj<|jn<|jb ?_;refine WpD.loop (α:={i:Nat//i≤n}) (fun i=>⟨[(1,.ptr 1 0),(4,.app 501 5 (csF E a p i.1).2),(21,.one (slc 5 L n)),(22,.one (i6 n)),(23,.one (i6 i.1))],[(1,[i6 p,jC,slc 5 L n]),(501,rowL (ccs (csF E a p i.1).1) (csF E a p i.1).2),(751,[])]⟩) (fun i=>n-i.1) ⟨0,Nat.zero_le _⟩ ?_ ?_
 ·dsimp only
  exact Sub.mk sJ sJ
 rintro⟨i,hi⟩;dsimp only;have hB:=kZh E a p i;have hx1:csF E a p (i+1)=cs2 (fG (a i) p) (cs1 (E i) (csF E a p i)):=rfl
 by_cases hin:i<n
 ·generalize csF E a p i=x at*
  obtain⟨g,c⟩:=x;dsimp only at hB ⊢;have hr1:=hrow i hin;refine vS<|vLt jj<|vW jj<|vS<|vD jj aO aM<|vR jj<|vA jj<|vP jj<|jn ?_;refine WpD.cut (α:=Unit) (fun _=>⟨[(1,.ptr 1 0),(4,.app 501 5 (cs1 (E i) (g,c)).2),(6,.ptr 6 0),(21,.one (slc 5 L n)),(22,.one (i6 n)),(23,.one (i6 i))],[(1,[i6 p,jC,slc 5 L n]),(6,uT (E i) (a i)),(501,rowL (ccs (cs1 (E i) (g,c)).1) (cs1 (E i) (g,c)).2),(751,[])]⟩) ?_ ?_
  ·have hlen:(rowL (ccs g) c).length=c*5:=cX fun _ _=>rfl
   have hcn:=hB.n;dsimp only at hcn
   by_cases h0:c=0
   ·have hcs:cs1 (E i) (g,c)=(cU g c ⟨(E i:Int),0,1,false,0⟩,c+1):=if_pos (.inl h0)
    rw[hcs];refine kR ?_;refine jm jj<|jS (fB jj CSlice.ok)<|vEt jj<|jm jj<|jk<|jk<|jk<|jk<|jk<|jk<|jk<|jk<|jk<|jk<|vq jj<|jn<|jt jj<|jr<|jm jj<|vX jj<|jS (aU (ps:=[(_,_),(_,_)]) ⟨jj,Part.c jj,jj,Part.c jj,trivial⟩ jj)<|jS (bW (ps:=[(_,_)]) ⟨jj,Part.c jj,trivial⟩ jj jj jj)<|RG.SW (LT.plain jj (cC 547 jj jj hlen jj oM oM jj jj jj jj jj jj)) jj<|vZ jj ?_;refine⟨(),?_⟩;dsimp only;exact Sub.mv 501 547 oM oM oM ⟨pM,⟨_,rfl,cI _ _,fT _ _,rfl,rfl,js0 rfl,js0 rfl⟩,pM,pK,pK,pK,trivial⟩ ⟨bK,bK,BMv.at rfl rfl (fun _=>by unfold grows;omega) oM oM rfl (PsLe.of (sX g c ⟨(E i:Int),0,1,false,0⟩).symm),.inl rfl,trivial⟩ rfl rfl
   ·have e1:=wM c oM
    have hq0:(rowL (ccs g) c)[(c-1)*5+0]? =some (ex (.int .i64 (g (c-1)).e)):=lU (fun _ _=>rfl) oM oM rfl
    by_cases he:(g (c-1)).e=(E i:Int)
    ·have hcs:cs1 (E i) (g,c)=(g,c):=if_neg (by rintro(h|h);exact h0 h;exact h he)
     rw[hcs];refine kR ?_;refine jm jj<|jS (fB jj CSlice.ok)<|vEf jj<|jm jj<|jgm jj<|jgm jj<|jg (fB jj CSlice.ok)<|jg (bSu jj jj e1)<|jg (fF jj jj aO jj)<|jgf jj jj<|jg (aX jj jj aM)<|vY jj<|uNf jj<|vQ jj<|jn<|jf jj<|jp ?_;refine⟨(),?_⟩;dsimp only;exact Sub.mk sJ sJ
    ·have hcs:cs1 (E i) (g,c)=(cU g c ⟨(E i:Int),0,1,false,0⟩,c+1):=if_pos (.inr he)
     rw[hcs];refine kR ?_;refine jm jj<|jS (fB jj CSlice.ok)<|vEf jj<|jm jj<|jgm jj<|jgm jj<|jg (fB jj CSlice.ok)<|jg (bSu jj jj e1)<|jg (fF jj jj aO jj)<|jgf jj jj<|jg (aX jj jj aM)<|vY jj<|uNt jj<|vQ jj<|jn<|jt jj<|jr<|jm jj<|vX jj<|jS (aU (ps:=[(_,_),(_,_)]) ⟨jj,Part.c jj,jj,Part.c jj,trivial⟩ jj)<|jS (bW (ps:=[(_,_)]) ⟨jj,Part.c jj,trivial⟩ jj jj jj)<|RG.SW (LT.plain jj (cC 547 jj jj hlen jj oM oM jj jj jj jj jj jj)) jj<|vZ jj ?_;refine⟨(),?_⟩;dsimp only;exact Sub.mv 501 547 oM oM oM ⟨pM,⟨_,rfl,cI _ _,fT _ _,rfl,rfl,js0 rfl,js0 rfl⟩,pM,pK,pK,pK,trivial⟩ ⟨bK,bK,BMv.at rfl rfl (fun _=>by unfold grows;omega) oM oM rfl (PsLe.of (sX g c ⟨(E i:Int),0,1,false,0⟩).symm),.inl rfl,trivial⟩ rfl rfl
  rintro⟨⟩;obtain⟨k1,k2,k3,k4⟩:=hB.one (E:=E i);generalize cs1 (E i) (g,c)=y at*;obtain⟨g1,c1⟩:=y;dsimp only at k1 k2 k3 k4 ⊢;have d1:=k3 (c1-1) oM;have s1:=k4 (c1-1) oM;have hlb:=jZy (a i) p;have hsb:=fZE s1 hlb;have hc8:c1-1<c1:=oM;have hl1:(rowL (ccs g1) c1).length=c1*5:=cX fun _ _=>rfl;have hq1:(rowL (ccs g1) c1)[(c1-1)*5+1]? =some (ex (.int .i64 (g1 (c1-1)).d)):=lU (fun _ _=>rfl) hc8 oM rfl;have hk1:(c1-1)*5+1<(rowL (ccs g1) c1).length:=oM;have hr2:=eZa (g:=g1) hc8 ((g1 (c1-1)).d+1);have e1:=wM c1 oM;have e2:IntKind.i64.wrap ((g1 (c1-1)).d+1)=(g1 (c1-1)).d+1:=w64 oM oM;have e3:IntKind.i64.wrap ((g1 (c1-1)).s*fG (a i) p)=(g1 (c1-1)).s*fG (a i) p:=w64 oM oM;have C3:=jleg En (a i) p oM oM;have hfin:cs2 (fG (a i) p) (g1,c1)=(cU g1 (c1-1) ⟨(g1 (c1-1)).e,(g1 (c1-1)).d+1,(g1 (c1-1)).s*fG (a i) p,(g1 (c1-1)).o,(g1 (c1-1)).y⟩,c1):=rfl;rw[hfin] at hx1;have hG:cU g1 (c1-1) ⟨(g1 (c1-1)).e,(g1 (c1-1)).d+1,(g1 (c1-1)).s*fG (a i) p,(g1 (c1-1)).o,(g1 (c1-1)).y⟩=cU (cU g1 (c1-1) ⟨(g1 (c1-1)).e,(g1 (c1-1)).d+1,(g1 (c1-1)).s,(g1 (c1-1)).o,(g1 (c1-1)).y⟩) (c1-1) ⟨(g1 (c1-1)).e,(g1 (c1-1)).d+1,(g1 (c1-1)).s*fG (a i) p,(g1 (c1-1)).o,(g1 (c1-1)).y⟩:=(eZc ..).symm;have hg2:(cU g1 (c1-1) ⟨(g1 (c1-1)).e,(g1 (c1-1)).d+1,(g1 (c1-1)).s,(g1 (c1-1)).o,(g1 (c1-1)).y⟩) (c1-1)=⟨(g1 (c1-1)).e,(g1 (c1-1)).d+1,(g1 (c1-1)).s,(g1 (c1-1)).o,(g1 (c1-1)).y⟩:=if_pos rfl;rw[hG] at hx1;generalize cU g1 (c1-1) ⟨(g1 (c1-1)).e,(g1 (c1-1)).d+1,(g1 (c1-1)).s,(g1 (c1-1)).o,(g1 (c1-1)).y⟩=g2 at*;have hl2:(rowL (ccs g2) c1).length=c1*5:=cX fun _ _=>rfl;have hq2:(rowL (ccs g2) c1)[(c1-1)*5+2]? =some (ex (.int .i64 (g1 (c1-1)).s)):=lU (fun _ _=>rfl) hc8 oM (by show(coc (g2 (c1-1)))[2]? =_;rw[hg2];rfl)
  have hk2:(c1-1)*5+2<(rowL (ccs g2) c1).length:=oM;have hr3:=dZZ (g:=g2) hc8 ((g1 (c1-1)).s*fG (a i) p);rw[hg2] at hr3;dsimp only at hr3;refine kR ?_;refine vV jj jj<|jS (fB jj CSlice.ok)<|vSu jj e1<|jS (fF jj jj aO jj)<|vZ jj<|vS<|jm jj<|vN jj<|vF jj<|jS (aX jj jj aM)<|vAd jj e2<|vN jj<|vF jj<|jO (bX jj jj jj aM aM)<|jn<|jr<|jm jj<|vN jj<|vF jj<|jS (aX jj jj aM)<|vX jj<|vX jj<|vC C3 ⟨jj,jj,trivial⟩<|vMu jj e3<|vN jj<|vF jj<|jO (bX jj jj jj aM aM)<|jn<|jr<|vAd jj wO<|jm jj<|jn ?_;refine⟨⟨i+1,oM⟩,?_,oD⟩;dsimp only;rw[hx1];dsimp only;exact Sub.mk sJ sJ
 ·have e:i=n:=oM
  subst e;refine vS<|vLf jj<|jn<|js<|jf jj<|je ?_;refine WpD.sub (τ:=⟨[(4,.one (slc 5 (rowL (ccs (csF E a p i).1) (csF E a p i).2) (csF E a p i).2))],[]⟩) (Sub.pub 501 rfl rfl ⟨.inr (.inr (.inl ⟨_,_,_,rfl,rfl,cX fun _ _=>rfl,PLe.refl _⟩)),trivial⟩ trivial rfl) ?_;refine kR ?_;refine jm jj<|ja jj<|vZ jj<|ji ?_;exact lB rfl (.tmp rfl) (.tmp rfl) (PLe.refl _)
end
end
section
open Go.RowKit Limb Det Num
section
variable(En:Ev)
end
end
section
open Go.RowKit Limb Det Num
def Mo(m a b:Int):Prop:=m∣a-b
theorem Mo.refl(m a:Int):Mo m a a:=⟨0,oM⟩
theorem Mo.trans{m a b c:Int}(h:Mo m a b)(h2:Mo m b c):Mo m a c:=by obtain⟨k,hk⟩:=h;obtain⟨l,hl⟩:=h2;exact⟨k+l,by grind⟩
theorem Mo.add{m a b c d:Int}(h:Mo m a b)(h2:Mo m c d):Mo m (a+c) (b+d):=by obtain⟨k,hk⟩:=h;obtain⟨l,hl⟩:=h2;exact⟨k+l,by grind⟩
theorem Mo.mul{m a b c d:Int}(h:Mo m a b)(h2:Mo m c d):Mo m (a*c) (b*d):=by obtain⟨k,hk⟩:=h;obtain⟨l,hl⟩:=h2;exact⟨k*c+b*l,by grind⟩
theorem Mo.mod(m a:Int):Mo m (a%m) a:=⟨-(a/m),by have:=Int.emod_add_mul_ediv a m;grind⟩
theorem Mo.emod{m a b:Int}(h:Mo m a b):a%m=b%m:=by
 obtain⟨k,hk⟩:=h;rw[show a=b+m*k by omega,Int.add_mul_emod_self_left]
theorem Mo.sm{m:Int}{f g:Nat→Int}:∀{n:Nat},(∀i,i<n→Mo m (f i) (g i))→Mo m (Det.sm f n) (Det.sm g n)
 |0,_=>Mo.refl _ _
 |n+1,h=>(Mo.sm fun i hi=>h i oM).add (h n oM)
theorem wW{m:Int}:∀{n:Nat} {M N:Mx},(∀r c,r<n→c<n→Mo m (M r c) (N r c))→Mo m (det n M) (det n N)
 |0,_,_,_=>Mo.refl _ _
 |n+1,M,N,h=>Mo.sm fun i hi=>((Mo.refl m (sg i)).mul (h i 0 hi oM)).mul (wW fun r c hr hc=>h _ _ (xM hr) oM)
theorem kZe{m n i j:Nat}{c:Int}{A:Nat→Nat→Int}(hi:i<n)(hj:j<n)(hij:i≠j):Mo m (det n (colA m c i j n A)) (det n A):=by
 have h1:det n (fun r x=>if x=j then A r j+c*A r i else A r x)=1*det n A:=mZu (k:=j) (l:=i) (x:=1) (y:=c) hj hi (fun e=>hij e.symm) (fun r _=>by rw[if_pos rfl];omega) (fun r x _ _ hx=>by rw[if_neg hx])
 rw[Int.one_mul] at h1;rw[←h1];refine wW fun r x hr _=>?_;unfold colA
 by_cases e:x=j
 ·rw[if_pos ⟨hr,e⟩,if_pos e];exact Mo.mod _ _
 ·rw[if_neg fun h=>e h.2,if_neg e];exact Mo.refl _ _
theorem kZd{m n i j:Nat}{c:Int}{A:Nat→Nat→Int}(hi:i<n)(hj:j<n)(hij:i≠j):Mo m (det n (rowA m c i j n A)) (det n A):=by
 have h1:det n (fun r x=>if r=j then A j x+c*A i x else A r x)=1*det n A:=cZv (k:=j) (l:=i) (x:=1) (y:=c) hj hi (fun e=>hij e.symm) (fun x _=>by rw[if_pos rfl];omega) (fun r x _ _ hr=>by rw[if_neg hr])
 rw[Int.one_mul] at h1;rw[←h1];refine wW fun r x _ hx=>?_;unfold rowA
 by_cases e:r=j
 ·rw[if_pos ⟨e,hx⟩,if_pos e];exact Mo.mod _ _
 ·rw[if_neg fun h=>e h.1,if_neg e];exact Mo.refl _ _
theorem kZf{m n i j:Nat}{c:Int}{A:Nat→Nat→Int}(hi:i<n)(hj:j<n)(hij:i≠j):Mo m (det n (addM m c i j n A)) (det n A):=(kZd hi hj hij).trans (kZe hi hj hij)
theorem mZs{n i j:Nat}{A:Nat→Nat→Int}(hi:i<n)(hj:j<n):det n (twM i j A)=det n A:=by
 by_cases hij:i=j
 ·subst hij
  have e:∀r,tw i i r=r:=fun r=>by unfold tw;split<;>omega
  exact cG fun r c _ _=>by unfold twM;rw[e,e]
 ·have h1:det n (twM i j A)= -det n (fun r x=>A r (tw i j x)):=sT hi hj hij (fun c _=>by unfold twM tw;simp) (fun c _=>by unfold twM tw;simp only[if_true];rw[if_neg (fun e=>hij e.symm)]) (fun r c _ _ h1 h2=>by unfold twM tw;rw[if_neg h1,if_neg h2])
  have h2:det n (fun r x=>A r (tw i j x))= -det n A:=bZh hi hj hij (fun r _=>by unfold tw;simp) (fun r _=>by unfold tw;simp only[if_true];rw[if_neg (fun e=>hij e.symm)]) (fun r c _ _ h1 h2=>by unfold tw;rw[if_neg h1,if_neg h2])
  rw[h1,h2,Int.neg_neg]
def Sy(n:Nat)(A:Nat→Nat→Int):Prop:=∀r x,r<n→x<n→A r x=A x r
theorem iD{m n i j:Nat}{c:Int}{A:Nat→Nat→Int}(hi:i<n){r x:Nat}(hr:r<n)(hx:x<n):addM m c i j n A r x=if r=j then(if x=j then((A j j+c*A j i)%(m:Int)+c*((A i j+c*A i i)%(m:Int)))%(m:Int) else(A j x+c*A i x)%(m:Int)) else(if x=j then(A r j+c*A r i)%(m:Int) else A r x):=by
 unfold addM rowA colA
 by_cases h1:r=j
 ·rw[if_pos ⟨h1,hx⟩,if_pos h1]
  by_cases h2:x=j
  ·subst h2
   rw[if_pos ⟨oM,rfl⟩,if_pos ⟨oM,rfl⟩,if_pos rfl]
  ·rw[if_neg fun h=>h2 h.2,if_neg fun h=>h2 h.2,if_neg h2]
 ·rw[if_neg fun h=>h1 h.1,if_neg h1]
  by_cases h2:x=j
  ·rw[if_pos ⟨hr,h2⟩,if_pos h2]
  ·rw[if_neg fun h=>h2 h.2,if_neg h2]
theorem Sy.addM{m n i j:Nat}{c:Int}{A:Nat→Nat→Int}(h:Sy n A)(hi:i<n)(hj:j<n):Sy n (addM m c i j n A):=fun r x hr hx=>by
 rw[iD hi hr hx,iD hi hx hr]
 by_cases h1:r=j
 ·by_cases h2:x=j
  ·rw[h1,h2]
  ·rw[if_pos h1,if_neg h2,if_neg h2,if_pos h1,h x j hx hj,h x i hx hi]
 ·by_cases h2:x=j
  ·rw[if_neg h1,if_pos h2,if_pos h2,if_neg h1,h r j hr hj,h r i hr hi]
  ·rw[if_neg h1,if_neg h2,if_neg h2,if_neg h1,h r x hr hx]
theorem Sy.twM{n i j:Nat}{A:Nat→Nat→Int}(h:Sy n A)(hi:i<n)(hj:j<n):Sy n (twM i j A):=fun _ _ hr hx=>h _ _ (qK hi hj hr) (qK hi hj hx)
end
section
open Go.RowKit Limb Det Num
section
variable{v:Int→Nat}{A:Nat→Nat→Int}
theorem jZj(ab:Nat×Nat)(i j:Nat):v (A (lsS v A ab i j).1 (lsS v A ab i j).2)≤v (A ab.1 ab.2)∧v (A (lsS v A ab i j).1 (lsS v A ab i j).2)≤v (A i j):=by
 unfold lsS;split
 ·exact⟨by dsimp only;omega,Nat.le_refl _⟩
 ·exact⟨Nat.le_refl _,oM⟩
theorem oZZ(ab:Nat×Nat)(i j:Nat):lsS v A ab i j=ab∨v (A (lsS v A ab i j).1 (lsS v A ab i j).2)<v (A ab.1 ab.2):=by
 unfold lsS;split
 ·exact .inr oD
 ·exact .inl rfl
theorem jZr:∀(f i:Nat) (ab:Nat×Nat),v (A (lsD v A f i ab).1 (lsD v A f i ab).2)≤v (A ab.1 ab.2)∧∀t,i≤t→t<i+f→v (A (lsD v A f i ab).1 (lsD v A f i ab).2)≤v (A t t)
 |0,_,_=>⟨Nat.le_refl _,fun t _ _=>oM⟩
 |f+1,i,ab=>by
  obtain⟨h1,h2⟩:=jZr f (i+1) (lsS v A ab i i);obtain⟨h3,h4⟩:=jZj (v:=v) (A:=A) ab i i;refine⟨Nat.le_trans h1 h3,fun t ht1 ht2=>?_⟩
  by_cases e:t=i
  ·subst e;exact Nat.le_trans h1 h4
  ·exact h2 t oM oM
theorem dZy:∀(f i:Nat) (ab:Nat×Nat),ab.1=ab.2→(lsD v A f i ab).1=(lsD v A f i ab).2
 |0,_,_,h=>h
 |f+1,i,ab,h=>dZy f (i+1) _ (by unfold lsS;split;rfl;exact h)
theorem jZs(r:Nat):∀(f i:Nat) (ab:Nat×Nat),r≤i→r≤ab.1∧r≤ab.2→r≤(lsD v A f i ab).1∧r≤(lsD v A f i ab).2
 |0,_,_,_,h=>h
 |f+1,i,ab,hi,h=>jZs r f (i+1) _ oM (by unfold lsS;split;exact⟨hi,hi⟩;exact h)
theorem eZU(i:Nat):∀(f j:Nat) (ab:Nat×Nat),v (A (lsR v A i f j ab).1 (lsR v A i f j ab).2)≤v (A ab.1 ab.2)∧∀t,j≤t→t<j+f→v (A (lsR v A i f j ab).1 (lsR v A i f j ab).2)≤v (A i t)
 |0,_,_=>⟨Nat.le_refl _,fun t _ _=>oM⟩
 |f+1,j,ab=>by
  obtain⟨h1,h2⟩:=eZU i f (j+1) (lsS v A ab i j);obtain⟨h3,h4⟩:=jZj (v:=v) (A:=A) ab i j;refine⟨Nat.le_trans h1 h3,fun t ht1 ht2=>?_⟩
  by_cases e:t=j
  ·subst e;exact Nat.le_trans h1 h4
  ·exact h2 t oM oM
theorem jZk(i:Nat):∀(f j:Nat) (ab:Nat×Nat),lsR v A i f j ab=ab∨v (A (lsR v A i f j ab).1 (lsR v A i f j ab).2)<v (A ab.1 ab.2)
 |0,_,_=> .inl rfl
 |f+1,j,ab=>by
  have h1:=(eZU (v:=v) (A:=A) i f (j+1) (lsS v A ab i j)).1;rcases oZZ (v:=v) (A:=A) ab i j with h|h
  ·show lsR v A i f (j+1) (lsS v A ab i j)=ab∨_
   rw[show lsR v A i (f+1) j ab=lsR v A i f (j+1) (lsS v A ab i j) from rfl,h]
   exact jZk i f (j+1) ab
  ·exact .inr (Nat.lt_of_le_of_lt h1 h)
theorem jZm(r i:Nat)(hi:r≤i):∀(f j:Nat) (ab:Nat×Nat),r≤j→r≤ab.1∧r≤ab.2→r≤(lsR v A i f j ab).1∧r≤(lsR v A i f j ab).2
 |0,_,_,_,h=>h
 |f+1,j,ab,hj,h=>jZm r i hi f (j+1) _ oM (by unfold lsS;split;exact⟨hi,hj⟩;exact h)
theorem eZV:∀(f i:Nat) (ab:Nat×Nat),v (A (lsO v A f i ab).1 (lsO v A f i ab).2)≤v (A ab.1 ab.2)∧∀t s,i≤t→t<s→s<i+f→v (A (lsO v A f i ab).1 (lsO v A f i ab).2)≤v (A t s)
 |0,_,_=>⟨Nat.le_refl _,fun t s _ _ _=>oM⟩
 |f+1,i,ab=>by
  obtain⟨h1,h2⟩:=eZV f (i+1) (lsR v A i f (i+1) ab);obtain⟨h3,h4⟩:=eZU (v:=v) (A:=A) i f (i+1) ab;refine⟨Nat.le_trans h1 h3,fun t s ht hts hs=>?_⟩
  by_cases e:t=i
  ·subst e;exact Nat.le_trans h1 (h4 s oM oM)
  ·exact h2 t s oM hts oM
theorem jZn:∀(f i:Nat) (ab:Nat×Nat),lsO v A f i ab=ab∨v (A (lsO v A f i ab).1 (lsO v A f i ab).2)<v (A ab.1 ab.2)
 |0,_,_=> .inl rfl
 |f+1,i,ab=>by
  have h1:=(eZV (v:=v) (A:=A) f (i+1) (lsR v A i f (i+1) ab)).1;rcases jZk (v:=v) (A:=A) i f (i+1) ab with h|h
  ·rw[show lsO v A (f+1) i ab=lsO v A f (i+1) (lsR v A i f (i+1) ab) from rfl,h]
   exact jZn f (i+1) ab
  ·exact .inr (Nat.lt_of_le_of_lt h1 h)
theorem jZp(r:Nat):∀(f i:Nat) (ab:Nat×Nat),r≤i→r≤ab.1∧r≤ab.2→r≤(lsO v A f i ab).1∧r≤(lsO v A f i ab).2
 |0,_,_,_,h=>h
 |f+1,i,ab,hi,h=>jZp r f (i+1) _ oM (jZm r i hi f (i+1) ab oM h)
end
theorem lC{p k n r:Nat}{A:Nat→Nat→Int}(hr:r<n):(r≤(aP p k n A r).1∧r≤(aP p k n A r).2)∧
  (∀t,r≤t→t<n→vlZ p k (A (aP p k n A r).1 (aP p k n A r).2)≤vlZ p k (A t t))∧(∀t s,r≤t→t<s→s<n→vlZ p k (A (aP p k n A r).1 (aP p k n A r).2)≤vlZ p k (A t s))∧
  ((aP p k n A r).1≠(aP p k n A r).2→∀t,r≤t→t<n→vlZ p k (A (aP p k n A r).1 (aP p k n A r).2)<vlZ p k (A t t)):=by
 obtain⟨h1,h2⟩:=jZr (v:=vlZ p k) (A:=A) (n-r) r (r,r);obtain⟨h3,h4⟩:=eZV (v:=vlZ p k) (A:=A) (n-r) r (lsD (vlZ p k) A (n-r) r (r,r));have h5:=jZn (v:=vlZ p k) (A:=A) (n-r) r (lsD (vlZ p k) A (n-r) r (r,r));have h6:=dZy (v:=vlZ p k) (A:=A) (n-r) r (r,r) rfl;have h7:=jZs (v:=vlZ p k) (A:=A) r (n-r) r (r,r) (Nat.le_refl r) ⟨Nat.le_refl r,Nat.le_refl r⟩;have h8:=jZp (v:=vlZ p k) (A:=A) r (n-r) r _ (Nat.le_refl r) h7;refine⟨h8,fun t ht1 ht2=>Nat.le_trans h3 (h2 t ht1 oM),fun t s ht hts hs=>h4 t s ht hts oM,fun hne t ht1 ht2=>?_⟩;rcases h5 with h|h
 ·exfalso
  apply hne;show(lsO (vlZ p k) A (n-r) r (lsD (vlZ p k) A (n-r) r (r,r))).1=(lsO (vlZ p k) A (n-r) r (lsD (vlZ p k) A (n-r) r (r,r))).2
  rw[h];exact h6
 ·exact Nat.lt_of_lt_of_le h (h2 t ht1 oM)
end
section
open Go.RowKit Limb Det Num
structure Bk where
 e:Nat
 t:Bool
 a:Int
 b:Int
 c:Int
def bkP(x:Bk):List Pd:=[i6 x.e,i6 (if x.t then 2 else 1),i6 x.a,i6 x.b,i6 x.c]
structure S2 where
 r:Nat
 n:Nat
 B:Nat→Bk
 x:MM
def bU(B:Nat→Bk)(i:Nat)(y:Bk):Nat→Bk:=fun j=>if j=i then y else B j
def twX(p k n r:Nat)(x:MM):MM:=(twM (r+1) (aP p k n x.1 r).2 (twM r (aP p k n x.1 r).1 x.1),twC (r+1) (aP p k n x.1 r).2 n (twC r (aP p k n x.1 r).1 n x.2))
def oneK(p k m n r:Nat)(x:MM):Bk:=⟨vlZ p k (x.1 r r),false,(yI p k m n r x).1 r r/(pvQ p k x.1 r:Int),0,0⟩
def gZR(p k r:Nat)(A:Nat→Nat→Int):Bk:=⟨vlZ p k (A r (r+1)),true,tvA p k A r r r,tvA p k A r r (r+1),tvA p k A r (r+1) (r+1)⟩
def st1(p k m n:Nat)(s:S2):S2:=⟨s.r+1,s.n+1,bU s.B s.n (oneK p k m n s.r (dcA p k m n s.r s.x)),yI p k m n s.r (dcA p k m n s.r s.x)⟩
def st2(p k m n:Nat)(s:S2):S2:=⟨s.r+2,s.n+1,bU s.B s.n (gZR p k s.r (twX p k n s.r s.x).1),gZQ p k m n s.r (twX p k n s.r s.x)⟩
def dgB(p k m n:Nat)(s:S2):S2:=if(aP p k n s.x.1 s.r).1≠(aP p k n s.x.1 s.r).2∧p=2 then st2 p k m n s else st1 p k m n s
def dcG(p k m n:Nat):Nat→S2→S2
 |0,s=>s
 |f+1,s=>if s.r<n then dcG p k m n f (dgB p k m n s) else s
def dc0(A:Nat→Nat→Int):S2:=⟨0,0,fun _=>⟨0,false,0,0,0⟩,(A,idM)⟩
theorem mZv{p k m n:Nat}{s:S2}(h:n≤s.r):∀f,dcG p k m n f s=s
 |0=>rfl
 |f+1=>if_neg oM
theorem hZW{m mq n r q:Nat}{a b c u:Int}(hm:1≤m):∀{f j:Nat} {x:MM},MB2 n m x→MB2 n m (twL m mq n r q a b c u f j x)
 |0,_,_,h=>h
 |f+1,j,_,h=>hZW hm (f:=f) (j:=j+1) ⟨(h.1.addM hm _ _ _).addM hm _ _ _,(h.2.colA hm _ _ _ _).colA hm _ _ _ _⟩
theorem aZP{p k n r:Nat}{A:Nat→Nat→Int}:(aP p k n A r).1≤(aP p k n A r).2:=by
 have s:∀(ab:Nat×Nat) (i j:Nat),ab.1≤ab.2→i≤j→(lsS (vlZ p k) A ab i j).1≤(lsS (vlZ p k) A ab i j).2:=fun ab i j h1 h2=>by unfold lsS;split;exact h2;exact h1
 have d:∀(f i:Nat) (ab:Nat×Nat),ab.1≤ab.2→(lsD (vlZ p k) A f i ab).1≤(lsD (vlZ p k) A f i ab).2:=fun f=>by
  induction f with
  |zero=>exact fun _ _ h=>h
  |succ f ih=>exact fun i ab h=>ih _ _ (s _ _ _ h (Nat.le_refl i))
 have e:∀(i f j:Nat) (ab:Nat×Nat),i≤j→ab.1≤ab.2→(lsR (vlZ p k) A i f j ab).1≤(lsR (vlZ p k) A i f j ab).2:=fun i f=>by
  induction f with
  |zero=>exact fun _ _ _ h=>h
  |succ f ih=>exact fun j ab hj h=>ih _ _ oM (s _ _ _ h hj)
 have o:∀(f i:Nat) (ab:Nat×Nat),ab.1≤ab.2→(lsO (vlZ p k) A f i ab).1≤(lsO (vlZ p k) A f i ab).2:=fun f=>by
  induction f with
  |zero=>exact fun _ _ h=>h
  |succ f ih=>exact fun i ab h=>ih _ _ (e _ _ _ _ oM h)
 exact o _ _ _ (d _ _ _ (Nat.le_refl r))
theorem oZo{p k m n r:Nat}{x:MM}(hr:r+1<n)(h:MB2 n m x):MB2 n m (twX p k n r x):=
 have hl:=iW (p:=p) (k:=k) (A:=x.1) (show r<n by omega)
 ⟨(h.1.twM oM hl.1).twM hr hl.2,(h.2.twC oM hl.1).twC hr hl.2⟩
theorem mZZ(B:Nat→Bk)(c:Nat)(y:Bk):rowL (fun j=>bkP (bU B c y j)) (c+1)=rowL (fun j=>bkP (B j)) c++bkP y:=by
 rw[rowL,cY (e':=fun j=>bkP (B j)) fun j hj=>by unfold bU;rw[if_neg oM]]
 congr 1
 unfold bU;rw[if_pos rfl]
section
variable(En:Ev)
theorem gZn(A:Nat→Nat→Int)(n p k m:Nat)(hF:Fm n A)(hp:2≤p)(hp2:p≤1000)(hk:k=dgs (det n A) p)(hm:m=p^k)(hm2:m≤2147483648):Fn PZ En 32 [imt A n n,i6 p] (cD [i6 p,jC,slc 5 (rowL (fun j=>bkP ((dcG p k m n n (dc0 (eF A m))).B j)) (dcG p k m n n (dc0 (eF A m))).n) (dcG p k m n n (dc0 (eF A m))).n]):=by
 have hn1:=hF.n1;have hn7:=hF.n7;have hpo:=hF.po n (Nat.le_refl n);have hdn:=hF.dn;have C1:=lZZ En A n 2 p hn1 oM oM (fun i j hi hj=>by
  have:=hF.en i j hi hj;exact dL oM oM) (fun i j hi hj=>by
  have:=hF.en i j hi hj;exact⟨oM,oM⟩) oM oM oM oM
 rw[←hk] at C1;have hkm:k<m:=by rw[hm];exact Nat.lt_pow_self oM
 have hk1:1≤k:=by rw[hk];unfold dgs;split<;>omega
 have hm1:2≤m:=by
  have:p^1≤p^k:=Nat.pow_le_pow_right oM hk1;rw[Nat.pow_one] at this;omega
 have C2:=fZh En p k oM (by rw[←hm];omega) oM
 rw[←hm] at C2;have C3:=lZW En A n m hn1 oM oM oM;have hR:MB n m (eF A m):=fun r x _ _=>⟨Int.emod_nonneg _ oM,Int.emod_lt_of_pos _ oM⟩;refine aA Tryz.func32 rfl Tryz.ntmps32 rfl ?_;intro w0 h0;refine vS<|vA jj<|vJ<|vV jj jj<|vC C1 tB<|vZ jj<|vS<|vV jj jj<|vV jj jj<|vC C2 tB<|jS (aU (ps:=[(_,_),(_,_),(_,_)]) ⟨jj,Part.c jj,jj,Part.c jj,jj,Part.c jj,trivial⟩ jj)<|vB jj<|vZ jj ?_;refine WpD.sub (τ:=⟨[(0,.one (imt A n n)),(1,.one (i6 p)),(4,.ptr 4 0),(6,.ptr 403 0)],[(403,[i6 p,i6 m,i6 k,ex (.slice none 0 0),ex (.slice none 0 0)]),(4,[i6 0,ex (.slice none 0 0),ex (.slice none 0 0)])]⟩) (Sub.mv 403 22 oM oM oM ⟨pK,pK,pM,⟨_,rfl,cI _ _,rfl,js0 rfl⟩,trivial⟩ ⟨BMv.toC rfl rfl (fun h=>absurd h uG) oM oM rfl ⟨⟨PLe.refl _,inferInstance⟩,⟨PLe.refl _,inferInstance⟩,⟨PLe.refl _,inferInstance⟩,⟨PLe.refl _,inferInstance⟩,⟨PLe.refl _,inferInstance⟩,trivial⟩,bK,trivial⟩ rfl rfl) ?_;refine kR ?_;refine vV jj jj<|jm jj<|vN jj<|vF jj<|jS (gC jj jj jj)<|RG.SW (LT.plain jj (lA 401 208 C3 tB (by intro i hi;omega) jj)) jj<|vN jj<|vF jj<|jO (tW jj jj jj (by simp) aG jj)<|jn<|js<|vS<|jm jj<|jE jj<|jm jj<|jn<|jb ?_
 refine WpD.loop (α:={i:Nat//i≤n}) (fun i=>⟨[(0,.one (imt A n n)),(1,.one (i6 p)),(4,.ptr 4 0),(6,.ptr 403 0),(33,.one (i6 n)),(34,.one (i6 i.1))],(403,[i6 p,i6 m,i6 k,dC 401 0 n n,tG 701 1 i.1])::(4,[i6 0,ex (.slice none 0 0),ex (.slice none 0 0)])::(701,aS (owR 216 n) i.1)::(951,[])::(401,aS (owR 208 n) n)::(rws 208 (bN (eF A m) n n)++rws 216 (bN idM i.1 n))⟩) (fun i=>n-i.1) ⟨0,Nat.zero_le _⟩ ?_ ?_
 ·dsimp only
  refine Sub.mk ?_ ⟨.inl ⟨_,rfl,⟨PLe.refl _,PLe.refl _,PLe.refl _,PLe.refl _,PLe.refl _,trivial⟩⟩,.inl pQ,.inr rfl,.inr rfl,.inl pQ,subBx.fam fFs (fun r _=>PsLe.refl _) ⟨.inr (bF oM),.inr (bF oM),.inr (bF oM),.inr (bF oM),.inr (bF oM),.inr (bF oM),.inr (bF oM),.inr (bF oM),trivial⟩⟩ (LKeep.all ⟨.inr (fun q hq=>?_),.inl rfl,.inr (fun q hq=>by cases hq),.inl rfl,.inr (fun q hq=>?_),lkAll.fam rfl (lkAll.fam (l:=[]) rfl trivial)⟩)
  ·repeat(first|exact trivial|refine jv rfl ?_|refine jw rfl (js0 rfl) ?_)
  ·simp only[List.mem_cons,List.not_mem_nil,or_false] at hq
   rcases hq with rfl|rfl|rfl|rfl|rfl
   ·exact gX
   ·exact gX
   ·exact gX
   ·exact iL (js0 rfl) uG
   ·exact dZo (js0 rfl) (js0 rfl)
  ·obtain⟨a,ha,rfl⟩:=jH hq
   exact iL ((Fam.live (d:=208) fFs) a oM) uG
 rintro⟨i,hi⟩;dsimp only
 by_cases hin:i<n
 ·have ho:0+i*1<((List.replicate n ([.int .i64 0].map ex)).flatten).length:=by simp;omega
  refine vS<|vLt jj<|vW jj<|vS<|jm jj<|vZ jj<|vS<|jm jj<|jE jj<|jT (fV jj jj jj jj oM jj jj)<|vZ jj<|vS<|vV jj jj<|jS (cL jj jj aO jj)<|jO (bX jj jj jj ho jj)<|jn ?_;refine WpD.sub (τ:=⟨[(0,.one (imt A n n)),(1,.one (i6 p)),(4,.ptr 4 0),(6,.ptr 403 0),(8,.own (216+i) 0 n n),(33,.one (i6 n)),(34,.one (i6 i))],(403,[i6 p,i6 m,i6 k,dC 401 0 n n,tG 701 1 i])::(4,[i6 0,ex (.slice none 0 0),ex (.slice none 0 0)])::(701,aS (owR 216 n) i)::(951,[])::(401,aS (owR 208 n) n)::(rws 208 (bN (eF A m) n n)++rws 216 (bN idM (i+1) n))⟩) (Sub.mv (216+i) 39 oM oM oM ⟨pK,pK,pM,pM,⟨_,rfl,cI _ _,rfl,rfl,rfl,(Fam.live (d:=216) fFs) i oM⟩,pK,pK,trivial⟩ ⟨BMv.cells rfl oM oM uG rfl ⟨PMv.flat (PLe.refl _),PMv.flat (PLe.refl _),PMv.flat (PLe.refl _),PMv.own (cJ oM oM) (js0 rfl) uG uG,PMv.app (cJ oM oM) (cJ oM oM) (js0 rfl) (js0 rfl),trivial⟩,bK,BMv.growL rfl oM oM oM rfl (PsMv.out (f:=owR 216 n) (g:=owR 216 n) fun a ha=>PMv.own (cJ oM oM) ((Fam.live (d:=216) fFs) a oM) uG uG),.inl rfl,BMv.out rfl oM oM uG rfl (fun a ha=>PMv.own (cJ oM oM) ((Fam.live (d:=208) fFs) a oM) uG uG),mvBx.famN (f:=bN (eF A m) n n) fFs oM oM (fun r _=>PsLe.refl _) (mvBx.fam (l:=[]) (fun r hr=>?_) trivial)⟩ rfl ?_) ?_
  ·by_cases h2:r=i
   ·subst h2
    exact BMv.at (eT oM) rfl uG oM oM rfl (PsLe.of (hZR hin))
   ·exact BMv.keep (eT oM) oM oM uG ((show Fam _ 216 (bN idM i n) from fFs) r hr) (PsLe.of (yB r h2).symm)
  ·dsimp only
   rw[aC,if_neg oM,aC,if_neg oM,aC,if_neg oM,aC,if_neg oM,aC,if_neg oM,iM,if_neg oM,kN,if_neg oM];rfl
  refine kR ?_;refine vV jj jj<|vN jj<|vF jj<|jS (yD jj jj jj (js0 jj) (js0 jj))<|jm jj<|RG.SW (LT.plain jj (aZz 732 jj uG jj jj jj)) jj<|RG.SW (LT.plain jj (xU 733 jj jj (eG _ _) jj jj oM jj jj jj jj jj jj jj)) jj<|vN jj<|vF jj<|jO (mX jj jj jj (by simp) jj jj)<|jn<|jr<|vAd jj wO<|jm jj<|jn ?_
  refine⟨⟨i+1,oM⟩,?_,oD⟩;dsimp only;exact Sub.mv 701 733 oM oM oM ⟨pK,pK,pM,pM,pK,pK,trivial⟩ ⟨BMv.cells rfl oM oM uG rfl ⟨PMv.flat (PLe.refl _),PMv.flat (PLe.refl _),PMv.flat (PLe.refl _),PMv.own (cJ oM oM) (js0 rfl) uG uG,PMv.app (cI _ _) (fT _ _) (js0 rfl) (js0 rfl),trivial⟩,bK,BMv.atL rfl rfl (fun _=>by unfold grows;omega) oM oM rfl (PsMv.out (f:=owR 216 n) (g:=owR 216 n) (n:=i+1) fun a ha=>PMv.own (cJ oM oM) ((Fam.live (d:=216) fFs) a oM) uG uG),.inl rfl,BMv.out rfl oM oM uG rfl (fun a ha=>PMv.own (cJ oM oM) ((Fam.live (d:=208) fFs) a oM) uG uG),mvBx.famN (f:=bN (eF A m) n n) fFs oM oM (fun r _=>PsLe.refl _) (mvBx.famN (l:=[]) (f:=bN idM (i+1) n) fFs oM oM (fun r _=>PsLe.refl _) trivial)⟩ rfl rfl
 ·have e:i=n:=oM
  subst e;have hP0:=Pm.id i;refine vS<|vLf jj<|jn<|js<|jf jj<|je ?_;refine WpD.sub (τ:=⟨[(0,.one (imt A i i)),(1,.one (i6 p)),(4,.ptr 4 0),(6,.ptr 403 0)],(4,[i6 0,ex (.slice none 0 0),ex (.slice none 0 0)])::sbx 403 401 208 402 216 (p:Int) (m:Int) (k:Int) i (fun i=>i) (gM (fun i=>i) (eF A m) i) (bN idM i i)⟩) (Sub.mv 402 701 oM oM oM ⟨pK,pK,pM,pM,trivial⟩ ⟨bK,BMv.cells rfl oM oM uG rfl ⟨PMv.flat (PLe.refl _),PMv.flat (PLe.refl _),PMv.flat (PLe.refl _),PMv.own (cJ oM oM) (js0 rfl) uG uG,PMv.fix (cI _ _) oM (js0 rfl) uG,trivial⟩,BMv.out (f:=owR 208 i) (g:=owR 208 i) rfl oM oM uG rfl (fun a ha=>PMv.own (cJ oM oM) ((Fam.live (d:=208) fFs) a oM) uG uG),mvBx.famN (f:=bN (eF A m) i i) fFs oM oM (fun r _=>PsLe.refl _) ⟨BMv.atL rfl rfl (fun h=>absurd h uG) oM oM rfl (PsMv.out (f:=owR 216 i) (g:=owR 216 i) (n:=i) fun a ha=>PMv.own (cJ oM oM) ((Fam.live (d:=216) fFs) a oM) uG uG),mvBx.famN (l:=[]) (f:=bN idM i i) fFs oM oM (fun r _=>PsLe.refl _) trivial⟩⟩ rfl rfl) ?_;refine kR ?_;refine jm jj<|jS (aU (ps:=[(_,_)]) ⟨jj,Part.c jj,trivial⟩ jj)<|vA jj<|vP jj<|jn<|js<|vS<|vZ jj<|jb ?_;refine WpD.loop (α:={y:S2×(Nat→Nat)×(Nat→Nat)//y.1.r≤i∧(y.1.n≤y.1.r∧(y.1.r=0∨1≤y.1.n))∧Pm i y.2.1 y.2.2∧MB2 i m y.1.x∧∃f,i≤y.1.r+f∧dcG p k m i i (dc0 (eF A m))=dcG p k m i f y.1}) (fun y=>⟨[(0,.one (imt A i i)),(1,.one (i6 p)),(4,.ptr 4 0),(6,.ptr 403 0),(9,.ptr 404 0),(10,.one (i6 y.1.1.r))],(404,[i6 p,ex (.slice none 0 0),tG 501 5 y.1.1.n])::(4,[i6 0,ex (.slice none 0 0),ex (.slice none 0 0)])::(501,rowL (fun j=>bkP (y.1.1.B j)) y.1.1.n)::(751,[])::sbx 403 401 208 402 216 (p:Int) (m:Int) (k:Int) i y.1.2.1 (gM y.1.2.2 y.1.1.x.1 i) (bN y.1.1.x.2 i i)⟩) (fun y=>i-y.1.1.r) ⟨(dc0 (eF A m),fun i=>i,fun i=>i),Nat.zero_le _,⟨Nat.le_refl _,.inl rfl⟩,hP0,⟨hR,fun r x _ _=>by show 0≤idM r x∧idM r x<(m:Int);unfold idM;split<;>omega⟩,i,Nat.le_add_left _ _,rfl⟩ ?_ ?_
  ·dsimp only[dc0]
   have h8:=hP0.lt8 (show i≤8 by omega)
   exact Sub.mv 404 9 oM oM oM ⟨pK,pK,pM,pM,⟨_,rfl,cI _ _,rfl,js0 rfl⟩,pK,trivial⟩ ⟨BMv.toC rfl rfl (fun h=>absurd h uG) oM oM rfl ⟨⟨PLe.refl _,inferInstance⟩,⟨PLe.refl _,inferInstance⟩,⟨PLe.refl _,(show Flat (ex (.slice none 0 0)) from inferInstance)⟩,trivial⟩,bK,.inl rfl,.inl rfl,bZN rfl rfl fFs rfl fFs (fun r _=>PsLe.refl _) (fun r _=>PsLe.refl _) aD oM oM oM (js0 rfl) (js0 rfl) (Fam.live fFs) (Fam.live fFs) oM h8⟩ rfl rfl
  rintro⟨⟨⟨r,nb,B,x1,x2⟩,π,σ⟩,hr,⟨hnb,hnb1⟩,hP,⟨hX1,hX2⟩,f,hf,hE⟩;dsimp only at hr hnb hnb1 hP hX1 hX2 hf hE ⊢;have h8:=hP.lt8 (show i≤8 by omega)
  by_cases hri:r<i
  ·obtain⟨g,rfl⟩:∃g,f=g+1:=⟨f-1,oM⟩
   have hE:dcG p k m i i (dc0 (eF A m))=dcG p k m i g (dgB p k m i ⟨r,nb,B,x1,x2⟩):=hE.trans (if_pos hri);have hB1:∀y,rowL (fun j=>bkP (bU B nb y j)) (nb+1)=rowL (fun j=>bkP (B j)) nb++bkP y:=mZZ B nb;have hlen:(rowL (fun j=>bkP (B j)) nb).length=nb*5:=cX fun _ _=>rfl;have hll:=iW (p:=p) (k:=k) (A:=x1) hri;have hge:=(lC (p:=p) (k:=k) (A:=x1) hri).1;have hup:=aZP (p:=p) (k:=k) (n:=i) (r:=r) (A:=x1);have CL:=pZg En p m k i r π σ x1 (bN x2 i i) hP oM hri oM oM hm2 hX1;unfold dgB at hE;dsimp only at hE
   by_cases h2:(aP p k i x1 r).1≠(aP p k i x1 r).2∧p=2
   ·obtain⟨hab,hp2e⟩:=h2
    rw[if_pos ⟨hab,hp2e⟩] at hE;have hc1:((((aP p k i x1 r).1:Nat):Int) !=(((aP p k i x1 r).2:Nat):Int))=true:=bneT oM;have hr1:r+1<i:=oM;have CW1:=gZm En p m k i r (aP p k i x1 r).1 π σ x1 x2 hP oM hri hll.1;have hP2:=hP.tw hri hll.1;have CW2:=gZm En p m k i (r+1) (aP p k i x1 r).2 _ _ (twM r (aP p k i x1 r).1 x1) (twC r (aP p k i x1 r).1 i x2) hP2 oM hr1 hll.2;have hP3:=hP2.tw hr1 hll.2;have h8':=hP2.lt8 (show i≤8 by omega)
    have h8'':=hP3.lt8 (show i≤8 by omega)
    have hXX:=oZo (p:=p) (k:=k) (x:=(x1,x2)) hr1 ⟨hX1,hX2⟩;have CO:=htwo En p m k i r _ _ (twX p k i r (x1,x2)).1 (twX p k i r (x1,x2)).2 hP3 oM hr1 oM oM hm hm2 hXX.1 hXX.2;generalize rowL (fun j=>bkP (B j)) nb=L at*;have e1:=wS r oM;have e2:IntKind.i64.wrap ((r:Int)+2)=((r+2:Nat):Int):=by rw[w64 oM oM];rfl
    refine js<|vS<|vV jj jj<|jE jj<|vLt jj<|jn<|jt jj<|jp<|jb<|vS<|vV jj jj<|jS (eV 403 401 208 402 216 CL ⟨⟨jj,oN⟩,jj,trivial⟩ jj jj fFs jj fFs oM aM) ?_;refine jm jj<|vE jj<|vE jj<|ja jj<|vZ jj<|js<|vS<|vV jj jj<|jS (bVn jj jj hc1)<|jm jj<|jgm jj<|jg (bEt jj jj oM)<|vq jj<|jn<|jt jj<|vS<|vV jj jj<|jm jj<|RG.SW (LT.plain jj (fW 403 401 208 402 216 CW1 ⟨⟨jj,oN⟩,jj,jj,trivial⟩ jj jj fFs jj fFs oM aM aM)) jj ?_;refine vJ<|vV jj jj<|vAd jj e1<|jm jj<|RG.SW (LT.plain jj (fW 403 401 208 402 216 CW2 ⟨⟨jj,oN⟩,jj,jj,trivial⟩ jj jj fFs jj fFs oM aM aM)) jj ?_;refine vJ<|vF jj<|jS (yD jj jj jj (js0 jj) (js0 jj))<|vV jj jj<|RG.SW (LT.plain jj (fW 403 401 208 402 216 CO ⟨⟨jj,oN⟩,jj,trivial⟩ jj jj fFs jj fFs oM aM aM)) jj ?_;refine jS (bW (ps:=[(_,_)]) ⟨jj,Part.c jj,trivial⟩ jj jj jj)<|RG.SW (LT.plain jj (cC 588 jj jj hlen jj oM oM jj jj jj jj jj jj)) jj<|vF jj<|jO (mX jj jj jj (by simp) jj jj)<|vJ<|jm jj<|vAd jj e2<|vZ jj<|je ?_
    refine⟨⟨(st2 p k m i ⟨r,nb,B,x1,x2⟩,_,_),by dsimp only[st2];omega,⟨by dsimp only[st2];omega,.inr (by dsimp only[st2];omega)⟩,hP3,hZW oM hXX,g,by dsimp only[st2];omega,hE⟩,?_,by dsimp only[st2];omega⟩
    dsimp only[st2];rw[hB1];exact Sub.mv 501 588 oM oM oM ⟨pK,pK,pM,pM,pM,pK,trivial⟩ ⟨BMv.cells rfl oM oM uG rfl ⟨PMv.flat (PLe.refl _),PMv.flat (PLe.refl _),PMv.app (cI _ _) (fT _ _) (js0 rfl) (js0 rfl),trivial⟩,bK,BMv.at rfl rfl (fun _=>by unfold grows;omega) oM oM rfl (PsLe.refl _),.inl rfl,bZN rfl rfl fFs rfl fFs (fun _ _=>PsLe.refl _) (fun _ _=>PsLe.refl _) aD oM oM oM (js0 rfl) (js0 rfl) (Fam.live fFs) (Fam.live fFs) oM h8''⟩ rfl rfl
   rw[if_neg h2] at hE;have hA2:=pZo (p:=p) (k:=k) (x:=(x1,x2)) (show 1≤m by omega) hri ⟨hX1,hX2⟩
   have hdA:dcA p k m i r (x1,x2)=(twM r (aP p k i x1 r).1 (uR p k m i r (x1,x2)).1,twC r (aP p k i x1 r).1 i (uR p k m i r (x1,x2)).2):=rfl;have hP2:=hP.tw hri hll.1;have h8':=hP2.lt8 (show i≤8 by omega)
   have CO:=lZX En p m k i r _ _ (dcA p k m i r (x1,x2)).1 (dcA p k m i r (x1,x2)).2 hP2 oM hri oM oM hm hm2 hA2.1 hA2.2;have e1:=wS r oM
   by_cases hab:(aP p k i x1 r).1=(aP p k i x1 r).2
   ·have hd1:uR p k m i r (x1,x2)=(x1,x2):=if_pos hab
    have CW:=gZm En p m k i r (aP p k i x1 r).1 π σ x1 x2 hP oM hri hll.1;rw[hd1] at hdA;have hc1:((((aP p k i x1 r).1:Nat):Int) !=(((aP p k i x1 r).2:Nat):Int))=false:=bneF oM;rw[hdA] at CO;generalize rowL (fun j=>bkP (B j)) nb=L at*;refine js<|vS<|vV jj jj<|jE jj<|vLt jj<|jn<|jt jj<|jp<|jb<|vS<|vV jj jj<|jS (eV 403 401 208 402 216 CL ⟨⟨jj,oN⟩,jj,trivial⟩ jj jj fFs jj fFs oM aM) ?_;refine jm jj<|vE jj<|vE jj<|ja jj<|vZ jj<|js<|vS<|vV jj jj<|jS (bVn jj jj hc1)<|jm jj<|jk<|jk<|vQ jj<|jn<|jf jj<|jp<|js<|vS<|vV jj jj<|jS (bVn jj jj hc1)<|jn<|jf jj<|jp<|vS<|vV jj jj<|jm jj<|RG.SW (LT.plain jj (fW 403 401 208 402 216 CW ⟨⟨jj,oN⟩,jj,jj,trivial⟩ jj jj fFs jj fFs oM aM aM)) jj ?_;refine vJ<|vF jj<|jS (yD jj jj jj (js0 jj) (js0 jj))<|vV jj jj<|RG.SW (LT.plain jj (fW 403 401 208 402 216 CO ⟨⟨jj,oN⟩,jj,trivial⟩ jj jj fFs jj fFs oM aM aM)) jj ?_;refine jS (bW (ps:=[(_,_)]) ⟨jj,Part.c jj,trivial⟩ jj jj jj)<|RG.SW (LT.plain jj (cC 609 jj jj hlen jj oM oM jj jj jj jj jj jj)) jj<|vF jj<|jO (mX jj jj jj (by simp) jj jj)<|jn<|jr<|jm jj<|vAd jj e1<|vZ jj ?_
    refine⟨⟨(st1 p k m i ⟨r,nb,B,x1,x2⟩,_,_),by dsimp only[st1];omega,⟨by dsimp only[st1];omega,.inr (by dsimp only[st1];omega)⟩,hP2,bZK oM hA2,g,by dsimp only[st1];omega,hE⟩,?_,by dsimp only[st1];omega⟩
    dsimp only[st1];rw[hB1,hdA];exact Sub.mv 501 609 oM oM oM ⟨pK,pK,pM,pM,pM,pK,trivial⟩ ⟨BMv.cells rfl oM oM uG rfl ⟨PMv.flat (PLe.refl _),PMv.flat (PLe.refl _),PMv.app (cI _ _) (fT _ _) (js0 rfl) (js0 rfl),trivial⟩,bK,BMv.at rfl rfl (fun _=>by unfold grows;omega) oM oM rfl (PsLe.refl _),.inl rfl,bZN rfl rfl fFs rfl fFs (fun _ _=>PsLe.refl _) (fun _ _=>PsLe.refl _) aD oM oM oM (js0 rfl) (js0 rfl) (Fam.live fFs) (Fam.live fFs) oM h8'⟩ rfl rfl
   ·have hd1:uR p k m i r (x1,x2)=(addM m 1 (aP p k i x1 r).2 (aP p k i x1 r).1 i x1,colA m 1 (aP p k i x1 r).2 (aP p k i x1 r).1 i x2):=if_neg hab
    have CA:=mZc En p m k i (aP p k i x1 r).2 (aP p k i x1 r).1 1 π σ x1 x2 hP oM hll.2 hll.1 (fun e=>hab e.symm) oM hm2 aD hX1 hX2;have CW:=gZm En p m k i r (aP p k i x1 r).1 π σ (uR p k m i r (x1,x2)).1 (uR p k m i r (x1,x2)).2 hP oM hri hll.1;rw[hd1] at CW hdA;rw[hdA] at CO;have hc1:((((aP p k i x1 r).1:Nat):Int) !=(((aP p k i x1 r).2:Nat):Int))=true:=bneT oM;have hp2n:(p:Int)≠2:=fun h=>h2 ⟨hab,oM⟩;generalize rowL (fun j=>bkP (B j)) nb=L at*;refine js<|vS<|vV jj jj<|jE jj<|vLt jj<|jn<|jt jj<|jp<|jb<|vS<|vV jj jj<|jS (eV 403 401 208 402 216 CL ⟨⟨jj,oN⟩,jj,trivial⟩ jj jj fFs jj fFs oM aM) ?_;refine jm jj<|vE jj<|vE jj<|ja jj<|vZ jj<|js<|vS<|vV jj jj<|jS (bVn jj jj hc1)<|jm jj<|jgm jj<|jg (bEf jj jj hp2n)<|vq jj<|jn<|jf jj<|jp<|js<|vS<|vV jj jj<|jS (bVn jj jj hc1)<|jn<|jt jj<|jr<|vV jj jj<|jm jj<|RG.SW (LT.plain jj (fW 403 401 208 402 216 CA ⟨⟨jj,oN⟩,jj,jj,jj,trivial⟩ jj jj fFs jj fFs oM aM aM)) jj ?_;refine vJ<|vV jj jj<|jm jj<|RG.SW (LT.plain jj (fW 403 401 208 402 216 CW ⟨⟨jj,oN⟩,jj,jj,trivial⟩ jj jj fFs jj fFs oM aM aM)) jj ?_;refine vJ<|vF jj<|jS (yD jj jj jj (js0 jj) (js0 jj))<|vV jj jj<|RG.SW (LT.plain jj (fW 403 401 208 402 216 CO ⟨⟨jj,oN⟩,jj,trivial⟩ jj jj fFs jj fFs oM aM aM)) jj ?_;refine jS (bW (ps:=[(_,_)]) ⟨jj,Part.c jj,trivial⟩ jj jj jj)<|RG.SW (LT.plain jj (cC 609 jj jj hlen jj oM oM jj jj jj jj jj jj)) jj<|vF jj<|jO (mX jj jj jj (by simp) jj jj)<|jn<|jr<|jm jj<|vAd jj e1<|vZ jj ?_
    refine⟨⟨(st1 p k m i ⟨r,nb,B,x1,x2⟩,_,_),by dsimp only[st1];omega,⟨by dsimp only[st1];omega,.inr (by dsimp only[st1];omega)⟩,hP2,bZK oM hA2,g,by dsimp only[st1];omega,hE⟩,?_,by dsimp only[st1];omega⟩
    dsimp only[st1];rw[hB1,hdA];exact Sub.mv 501 609 oM oM oM ⟨pK,pK,pM,pM,pM,pK,trivial⟩ ⟨BMv.cells rfl oM oM uG rfl ⟨PMv.flat (PLe.refl _),PMv.flat (PLe.refl _),PMv.app (cI _ _) (fT _ _) (js0 rfl) (js0 rfl),trivial⟩,bK,BMv.at rfl rfl (fun _=>by unfold grows;omega) oM oM rfl (PsLe.refl _),.inl rfl,bZN rfl rfl fFs rfl fFs (fun _ _=>PsLe.refl _) (fun _ _=>PsLe.refl _) aD oM oM oM (js0 rfl) (js0 rfl) (Fam.live fFs) (Fam.live fFs) oM h8'⟩ rfl rfl
  ·have hE:dcG p k m i i (dc0 (eF A m))=⟨r,nb,B,x1,x2⟩:=hE.trans (mZv oD f)
   rw[hE];dsimp only;refine js<|vS<|vV jj jj<|jE jj<|vLf jj<|jn<|jf jj<|je<|vS<|jm jj<|vN jj<|vF jj<|jS (bQ jj jj jj uG)<|vF jj<|jO (tW jj jj jj (by simp) uG jj)<|jn ?_
   refine WpD.sub (τ:=⟨[(4,.ptr 4 0),(9,.ptr 9 0)],[(9,[i6 p,jC,slc 5 (rowL (fun j=>bkP (B j)) nb) nb]),(4,[i6 0,ex (.slice none 0 0),ex (.slice none 0 0)])]⟩) (Sub.pubJ 404 9 501 inferInstance rfl rfl (cX fun _ _=>rfl) oM oM oM oM rfl rfl rfl ⟨.inl ⟨⟨_,rfl,SLe.rfl' _⟩,js0 rfl,js0 rfl⟩,.inr ⟨_,rfl,rfl⟩,trivial⟩ ⟨.inl pQ,trivial⟩ (fun q ps h=>?_) rfl) ?_
   ·rw[aC] at h
    split at h
    ·rename_i e;subst e;exact⟨rfl,oM,oM⟩
    ·cases h
   refine kR ?_;refine vL jj<|vP jj<|jn<|ji ?_;exact rtC rfl jj jj
end
end
section
open Go.RowKit Limb Det Num
instance kb101:CBody PZ 101:=cB Tryz.func101
instance kb42:CBody PZ 42:=cB Tryz.func42
instance kb14:CBody PZ 14:=cB Tryz.func14
structure BkOk(p:Nat)(y:Bk):Prop where
 e:y.e≤60
 s:(y.t=false∧y.a.tmod (p:Int)≠0∧y.b=0∧y.c=0)∨(y.t=true∧p=2∧y.a.tmod 2=0∧y.b.tmod 2≠0∧y.c.tmod 2=0)
def bsz(y:Bk):Nat:=if y.t then 2 else 1
def ssz(B:Nat→Bk):Nat→Nat
 |0=>0
 |i+1=>ssz B i+bsz (B i)
theorem bZv(B:Nat→Bk):∀n,n≤ssz B n
 |0=>Nat.le_refl 0
 |n+1=>by
  have h:=bZv B n;have:1≤bsz (B n):=by unfold bsz;split<;>omega
  rw[ssz];omega
theorem cZO(B:Nat→Bk):∀{n i:Nat},i≤n→ssz B i≤ssz B n
 |0,i,h=>by rw[show i=0 by omega];exact Nat.le_refl _
 |n+1,i,h=>by
  by_cases e:i=n+1
  ·rw[e];exact Nat.le_refl _
  ·have:=cZO B (n:=n) (i:=i) oM
   rw[ssz];omega
section
variable(En:Ev)
theorem pZf(p:Nat)(y:Bk)(hp:2≤p)(h:BkOk p y):Fn PZ En 137 [cD (bkP y),i6 p] (ex (.bool true)):=by
 have hp0:(p:Int)≠0:=oM;obtain⟨he,hs⟩:=h;obtain⟨e,t,a,b,c'⟩:=y;dsimp only at he hs;rcases hs with⟨rfl,ha,rfl,rfl⟩|⟨rfl,rfl,ha,hb,hc⟩
 ·unfold bkP
  dsimp only;rw[if_neg aD];refine aA Tryz.func137 rfl Tryz.ntmps137 rfl ?_;intro w0 h0;refine vS<|vB jj<|vZ jj<|js<|vS<|vX jj<|vLf jj<|jm jj<|vY jj<|uGf jj<|vQ jj<|jn<|jf jj<|jp<|js<|vS<|vX jj<|vEt jj<|jn<|jt jj<|vS<|vX jj<|jm jj<|jS (aY jj jj (fun w=>cR w _ _ _ _ _ _ aW))<|vNt jj<|jm jj<|vY jj<|uEt jj<|vq jj<|jm jj<|vY jj<|uEt jj<|vq jj<|vZ jj ?_;refine ji ?_;exact rtT rfl jj
 ·unfold bkP
  dsimp only;rw[if_pos rfl];refine aA Tryz.func137 rfl Tryz.ntmps137 rfl ?_;intro w0 h0;refine vS<|vB jj<|vZ jj<|js<|vS<|vX jj<|vLf jj<|jm jj<|vY jj<|uGf jj<|vQ jj<|jn<|jf jj<|jp<|js<|vS<|vX jj<|vEf jj<|jn<|jf jj<|jp<|vS<|jm jj<|vEt jj<|jm jj<|vY jj<|uEt jj<|vq jj<|jm jj<|vY jj<|jg (aY jj jj (fun w=>cR w _ _ _ _ _ _ aW))<|uEt jj<|vq jj<|jm jj<|vY jj<|jg (aY jj jj (fun w=>cR w _ _ _ _ _ _ aW))<|uNt jj<|vq jj<|jm jj<|vY jj<|jg (aY jj jj (fun w=>cR w _ _ _ _ _ _ aW))<|uEt jj<|vq jj<|vZ jj ?_;refine ji ?_;exact rtT rfl jj
theorem jZ7(B:Nat→Bk)(n p:Nat)(hn:1≤n)(hn8:ssz B n≤8)(hp:2≤p)(hB:∀i,i<n→BkOk p (B i))(hs:∀i,i+1<n→(B i).e≤(B (i+1)).e):Fn PZ En 79 [slc 5 (rowL (fun i=>bkP (B i)) n) n,i6 p] (ex (.bool true)):=by
 have hrow:∀i,i<n→((rowL (fun i=>bkP (B i)) n).drop (i*5)).take 5=bkP (B i):=fun i hi=>fY (fun _ _=>rfl) hi;have hnl:=bZv B n;generalize hL:rowL (fun i=>bkP (B i)) n=L at*;refine aA Tryz.func79 rfl Tryz.ntmps79 rfl ?_;intro w0 h0;refine vS<|vZ jj<|vS<|vZ jj<|js<|vS<|jm jj<|jE jj<|jm jj<|jn<|jb ?_;refine WpD.loop (α:={i:Nat//i≤n}) (fun i=>⟨[(0,.one (slc 5 L n)),(1,.one (i6 p)),(5,.one (i6 (ssz B i.1:Int))),(8,.one (slc 5 L n)),(9,.one (i6 n)),(10,.one (i6 i.1))],[]⟩) (fun i=>n-i.1) ⟨0,Nat.zero_le _⟩ ?_ ?_
 ·dsimp only
  exact Sub.mk sJ sJ
 rintro⟨i,hi⟩;dsimp only
 by_cases hin:i<n
 ·have C1:=pZf En p (B i) hp (hB i hin)
  have hr1:=hrow i hin;have hm:=cZO B (n:=n) (i:=i+1) oM;have hss:ssz B (i+1)=ssz B i+bsz (B i):=rfl;have e2:IntKind.i64.wrap ((ssz B i:Int)+(if(B i).t then 2 else 1))=(ssz B (i+1):Int):=by
   rw[hss];unfold bsz at*;split
   ·rename_i h;rw[if_pos h] at hss;rw[w64 oM oM];omega
   ·rename_i h;rw[if_neg h] at hss;rw[w64 oM oM];omega
  by_cases h0:i=0
  ·refine vS<|vLt jj<|vW jj<|vS<|jm jj<|vD jj aO aM<|vR jj<|vA jj<|ja jj<|vP jj<|jn<|js<|vS<|jm jj<|jS (bHf jj jj)<|jm jj<|jg (dM jj jj jj jj)<|jgm jj<|jg (aQ C1 ⟨jj,jj,trivial⟩)<|jg (bNo jj)<|vQ jj<|jm jj<|jgm jj<|uGf jj<|jgm jj<|jk<|jk<|jk<|jk<|jk<|jk<|jk<|jk<|jk<|jg (bZ jj jj)<|vQ jj<|jn ?_
   refine jf jj<|jp<|jr<|jm jj<|vX jj<|vAd jj e2<|vZ jj<|jr<|vAd jj wO<|jm jj<|jn ?_;refine⟨⟨i+1,oM⟩,?_,oD⟩;dsimp only;exact Sub.mk sJ sJ
  ·have hr2:=hrow (i-1) oM
   have hse:=hs (i-1) oM;rw[show i-1+1=i by omega] at hse
   have e1:=wM i oM;refine vS<|vLt jj<|vW jj<|vS<|jm jj<|vD jj aO aM<|vR jj<|vA jj<|ja jj<|vP jj<|jn<|js<|vS<|jm jj<|jS (bHf jj jj)<|jm jj<|jg (dM jj jj jj jj)<|jgm jj<|jg (aQ C1 ⟨jj,jj,trivial⟩)<|jg (bNo jj)<|vQ jj<|jm jj<|jgm jj<|uGt jj<|jgm jj<|vY jj<|jgm jj<|jgm jj<|jg (bSu jj jj e1)<|jg (aK jj jj aO aM)<|jg (aI jj jj)<|jg (aZ jj jj)<|uLf jj<|jg (dE jj jj)<|vQ jj<|jn ?_;refine jf jj<|jp<|jr<|jm jj<|vX jj<|vAd jj e2<|vZ jj<|jr<|vAd jj wO<|jm jj<|jn ?_;refine⟨⟨i+1,oM⟩,?_,oD⟩;dsimp only;exact Sub.mk sJ sJ
 ·have e:i=n:=oM
  subst e;refine vS<|vLf jj<|vU jj<|vS<|jm jj<|jS (bHt jj jj)<|jm jj<|jgm jj<|jg (bMt jj jj)<|vq jj<|vZ jj<|ji ?_;exact rtT rfl jj
end
def bD(y:Bk):Int:=if y.t then(y.a%8*(y.c%8)-y.b%8*(y.b%8))%8 else y.a%8
def bG(y:Bk)(c:Co):Co:=⟨c.e,c.d+(if y.t then 2 else 1),if bD y=3∨bD y=5 then-c.s else c.s,if y.t then c.o else true,if y.t then c.y else(c.y+y.a%8)%8⟩
def csE(y:Bk)(z:CS):CS:=(cU z.1 (z.2-1) (bG y (z.1 (z.2-1))),z.2)
def csB(B:Nat→Bk):Nat→CS
 |0=>(fun _=>⟨0,0,1,false,0⟩,0)
 |i+1=>csE (B i) (cs1 (B i).e (csB B i))
structure CoB(i:Nat)(c:Co):Prop where
 d0:0≤c.d
 d1:c.d≤2*(i:Int)
 s0: -1≤c.s
 s1:c.s≤1
 y0:0≤c.y
 y1:c.y≤7
theorem CoB.step{i:Nat}{c:Co}(h:CoB i c)(y:Bk):CoB (i+1) (bG y c):=by
 obtain⟨h1,h2,h3,h4,h5,h6⟩:=h;unfold bG;exact⟨by dsimp only;split<;>omega,by dsimp only;split<;>omega,by dsimp only;split<;>omega,by dsimp only;split<;>omega,by dsimp only;split<;>omega,by dsimp only;split<;>omega⟩
theorem jW(g:Nat→Co)(i:Nat)(c:Co):cU g i c i=c:=if_pos rfl
theorem mJ(g:Nat→Co){i j:Nat}(c:Co)(h:j≠i):cU g i c j=g j:=if_neg h
theorem gZ3{Q:Co→Prop}{E:Nat}{z:CS}(h0:Q ⟨(E:Int),0,1,false,0⟩)(h:∀j,j<z.2→Q (z.1 j)):∀j,j<(cs1 E z).2→Q ((cs1 E z).1 j):=fun j hj=>by
 unfold cs1 at*
 by_cases c:z.2=0∨(z.1 (z.2-1)).e≠(E:Int)
 ·rw[if_pos c] at hj ⊢
  dsimp only at hj ⊢
  by_cases e:j=z.2
  ·rw[e,jW];exact h0
  ·rw[mJ _ _ e];exact h j oM
 ·rw[if_neg c] at hj ⊢;exact h j hj
theorem gZ2{E:Nat}(z:CS):0<(cs1 E z).2∧z.2≤(cs1 E z).2∧(cs1 E z).2≤z.2+1∧((cs1 E z).1 ((cs1 E z).2-1)).e=(E:Int):=by
 unfold cs1
 by_cases c:z.2=0∨(z.1 (z.2-1)).e≠(E:Int)
 ·rw[if_pos c]
  refine⟨Nat.succ_pos _,Nat.le_succ _,Nat.le_refl _,?_⟩;dsimp only;rw[Nat.add_sub_cancel,jW]
 ·rw[if_neg c]
  have h1:z.2≠0:=fun h=>c (.inl h);have h2:(z.1 (z.2-1)).e=(E:Int):=by
   by_cases h:(z.1 (z.2-1)).e=(E:Int)
   ·exact h
   ·exact absurd (.inr h) c
  exact⟨oM,Nat.le_refl _,oM,h2⟩
theorem kZi(B:Nat→Bk):∀i,(csB B i).2≤i∧∀j,j<(csB B i).2→CoB i ((csB B i).1 j)
 |0=>⟨Nat.le_refl 0,fun j hj=>absurd hj (by show ¬j<0;omega)⟩
 |i+1=>by
  obtain⟨h1,h2⟩:=kZi B i;obtain⟨k1,k2,k3,_⟩:=gZ2 (E:=(B i).e) (csB B i);have k5:=gZ3 (Q:=CoB i) (E:=(B i).e) (z:=csB B i) ⟨by dsimp only;omega,oD,oD,oD,oD,oD⟩ h2
  refine⟨show(cs1 (B i).e (csB B i)).2≤i+1 by omega,fun j hj=>?_⟩
  have hj:j<(cs1 (B i).e (csB B i)).2:=hj;show CoB (i+1) (cU _ _ _ j)
  by_cases e:j=(cs1 (B i).e (csB B i)).2-1
  ·rw[e,jW];exact(k5 _ oM).step _
  ·rw[mJ _ _ e]
   obtain⟨a1,a2,a3,a4,a5,a6⟩:=k5 j hj;exact⟨a1,oM,a3,a4,a5,a6⟩
theorem kZs{g:Nat→Co}{i n:Nat}(hi:i<n)(o:Bool):(rowL (ccs g) n).set (i*5+3) (ex (.bool o))=rowL (ccs (cU g i ⟨(g i).e,(g i).d,(g i).s,o,(g i).y⟩)) n:=by
 rw[oU (e:=ccs g) (k:=5) (fun _ _=>rfl) hi oM];exact cZz g i ⟨(g i).e,(g i).d,(g i).s,o,(g i).y⟩ n
theorem kZr{g:Nat→Co}{i n:Nat}(hi:i<n)(y:Int):(rowL (ccs g) n).set (i*5+4) (i6 y)=rowL (ccs (cU g i ⟨(g i).e,(g i).d,(g i).s,(g i).o,y⟩)) n:=by
 rw[oU (e:=ccs g) (k:=5) (fun _ _=>rfl) hi oM];exact cZz g i ⟨(g i).e,(g i).d,(g i).s,(g i).o,y⟩ n
end
section
open Go.RowKit Limb Det Num
theorem gZB(g:Nat→Co)(i:Nat)(c:Co)(h:g i=c):cU g i c=g:=by
 funext j
 unfold cU;split
 ·rename_i e;rw[e,h]
 ·rfl
section
variable(En:Ev)
theorem mZb(B:Nat→Bk)(n:Nat)(hn:1≤n)(hn8:ssz B n≤8)(hB:∀i,i<n→BkOk 2 (B i))(hs:∀i,i+1<n→(B i).e≤(B (i+1)).e):Fn PZ En 101 [cD [i6 ((2:Nat):Int),jC,slc 5 (rowL (fun i=>bkP (B i)) n) n]] (dK [slc 5 (rowL (ccs (csB B n).1) (csB B n).2) (csB B n).2,ex (.bool true)]):=by
 have C2:=jZ7 En B n 2 hn hn8 oM hB hs;have hnl:=bZv B n;have hrow:∀i,i<n→((rowL (fun i=>bkP (B i)) n).drop (i*5)).take 5=bkP (B i):=fun i hi=>fY (fun _ _=>rfl) hi;generalize hL:rowL (fun i=>bkP (B i)) n=L at*;refine aA Tryz.func101 rfl Tryz.ntmps101 rfl ?_;intro w0 h0;refine vS<|vB jj<|ja jj<|vZ jj<|js<|vS<|vX jj<|vNf jj<|jm jj<|vY jj<|jg (aQ C2 tB)<|jg (bNo jj)<|vQ jj<|jn<|jf jj<|jp<|vS<|vZ jj<|js<|vS<|vX jj<|jE jj<|jm jj<|jn<|jb ?_;refine WpD.loop (α:={i:Nat//i≤n}) (fun i=>⟨[(1,.ptr 1 0),(4,.app 501 5 (csB B i.1).2),(22,.one (slc 5 L n)),(23,.one (i6 n)),(24,.one (i6 i.1))],[(1,[i6 ((2:Nat):Int),jC,slc 5 L n]),(501,rowL (ccs (csB B i.1).1) (csB B i.1).2),(751,[])]⟩) (fun i=>n-i.1) ⟨0,Nat.zero_le _⟩ ?_ ?_
 ·dsimp only
  exact Sub.mk sJ sJ
 rintro⟨i,hi⟩;dsimp only;have hbd:=kZi B i;have hx1:csB B (i+1)=csE (B i) (cs1 (B i).e (csB B i)):=rfl
 by_cases hin:i<n
 ·generalize csB B i=x at*
  obtain⟨g,c'⟩:=x;dsimp only at hbd ⊢;obtain⟨hcn,hco⟩:=hbd;have hr1:=hrow i hin;generalize B i=y at*;refine vS<|vLt jj<|vW jj<|vS<|vD jj aO aM<|vR jj<|vA jj<|vP jj<|jn ?_;refine WpD.cut (α:=Unit) (fun _=>⟨[(1,.ptr 1 0),(4,.app 501 5 (cs1 y.e (g,c')).2),(6,.ptr 6 0),(22,.one (slc 5 L n)),(23,.one (i6 n)),(24,.one (i6 i))],[(1,[i6 ((2:Nat):Int),jC,slc 5 L n]),(6,bkP y),(501,rowL (ccs (cs1 y.e (g,c')).1) (cs1 y.e (g,c')).2),(751,[])]⟩) ?_ ?_
  ·have hlen:(rowL (ccs g) c').length=c'*5:=cX fun _ _=>rfl
   by_cases h0:c'=0
   ·have hcs:cs1 y.e (g,c')=(cU g c' ⟨(y.e:Int),0,1,false,0⟩,c'+1):=if_pos (.inl h0)
    rw[hcs];refine kR ?_;refine jm jj<|jS (fB jj CSlice.ok)<|vEt jj<|jm jj<|jk<|jk<|jk<|jk<|jk<|jk<|jk<|jk<|jk<|jk<|vq jj<|jn<|jt jj<|jr<|jm jj<|vX jj<|jS (aU (ps:=[(_,_),(_,_)]) ⟨jj,Part.c jj,jj,Part.c jj,trivial⟩ jj)<|jS (bW (ps:=[(_,_)]) ⟨jj,Part.c jj,trivial⟩ jj jj jj)<|RG.SW (LT.plain jj (cC 548 jj jj hlen jj oM oM jj jj jj jj jj jj)) jj<|vZ jj ?_;refine⟨(),?_⟩;dsimp only;exact Sub.mv 501 548 oM oM oM ⟨pM,⟨_,rfl,cI _ _,fT _ _,rfl,rfl,js0 rfl,js0 rfl⟩,pM,pK,pK,pK,trivial⟩ ⟨bK,bK,BMv.at rfl rfl (fun _=>by unfold grows;omega) oM oM rfl (PsLe.of (sX g c' ⟨(y.e:Int),0,1,false,0⟩).symm),.inl rfl,trivial⟩ rfl rfl
   ·have e1:IntKind.i64.wrap ((c':Int)-1)=((c'-1:Nat):Int):=by rw[w64 oM oM];omega
    have hq0:(rowL (ccs g) c')[(c'-1)*5+0]? =some (ex (.int .i64 (g (c'-1)).e)):=lU (fun _ _=>rfl) oM oM rfl
    by_cases he:(g (c'-1)).e=(y.e:Int)
    ·have hcs:cs1 y.e (g,c')=(g,c'):=if_neg (by rintro(h|h);exact h0 h;exact h he)
     rw[hcs];refine kR ?_;refine jm jj<|jS (fB jj CSlice.ok)<|vEf jj<|jm jj<|jgm jj<|jgm jj<|jg (fB jj CSlice.ok)<|jg (bSu jj jj e1)<|jg (fF jj jj aO jj)<|jgf jj jj<|jg (aX jj jj aM)<|vY jj<|uNf jj<|vQ jj<|jn<|jf jj<|jp ?_;refine⟨(),?_⟩;dsimp only;exact Sub.mk sJ sJ
    ·have hcs:cs1 y.e (g,c')=(cU g c' ⟨(y.e:Int),0,1,false,0⟩,c'+1):=if_pos (.inr he)
     rw[hcs];refine kR ?_;refine jm jj<|jS (fB jj CSlice.ok)<|vEf jj<|jm jj<|jgm jj<|jgm jj<|jg (fB jj CSlice.ok)<|jg (bSu jj jj e1)<|jg (fF jj jj aO jj)<|jgf jj jj<|jg (aX jj jj aM)<|vY jj<|uNt jj<|vQ jj<|jn<|jt jj<|jr<|jm jj<|vX jj<|jS (aU (ps:=[(_,_),(_,_)]) ⟨jj,Part.c jj,jj,Part.c jj,trivial⟩ jj)<|jS (bW (ps:=[(_,_)]) ⟨jj,Part.c jj,trivial⟩ jj jj jj)<|RG.SW (LT.plain jj (cC 548 jj jj hlen jj oM oM jj jj jj jj jj jj)) jj<|vZ jj ?_;refine⟨(),?_⟩;dsimp only;exact Sub.mv 501 548 oM oM oM ⟨pM,⟨_,rfl,cI _ _,fT _ _,rfl,rfl,js0 rfl,js0 rfl⟩,pM,pK,pK,pK,trivial⟩ ⟨bK,bK,BMv.at rfl rfl (fun _=>by unfold grows;omega) oM oM rfl (PsLe.of (sX g c' ⟨(y.e:Int),0,1,false,0⟩).symm),.inl rfl,trivial⟩ rfl rfl
  rintro⟨⟩;obtain⟨k1,k2,k3,k4⟩:=gZ2 (E:=y.e) (g,c');have k5:=gZ3 (Q:=CoB i) (E:=y.e) (z:=(g,c')) ⟨by dsimp only;omega,oD,oD,oD,oD,oD⟩ hco
  generalize cs1 y.e (g,c')=z at*;obtain⟨g1,c1⟩:=z;dsimp only at k1 k2 k3 k4 k5 ⊢;have hc8:c1-1<c1:=oM;obtain⟨d0,d1,s0,s1,y0,y1⟩:=k5 (c1-1) hc8;have e1:=wM c1 oM;have G1:=aZo En y.a 8 oM oM;have G2:=aZo En y.b 8 oM oM;have G3:=aZo En y.c 8 oM oM;refine kR ?_;refine vV jj jj<|jS (fB jj CSlice.ok)<|vSu jj e1<|jS (fF jj jj aO jj)<|vZ jj<|vS<|vX jj<|vC G1 tB<|vX jj<|vC G2 tB<|vX jj<|vC G3 tB<|ja jj<|ja jj<|vZ jj<|vS<|jm jj<|vZ jj ?_;have hbD:bD y=if y.t then(y.a%8*(y.c%8)-y.b%8*(y.b%8))%8 else y.a%8:=rfl;have hbG:bG y (g1 (c1-1))=⟨(g1 (c1-1)).e,(g1 (c1-1)).d+(if y.t then 2 else 1),if bD y=3∨bD y=5 then-(g1 (c1-1)).s else(g1 (c1-1)).s,if y.t then(g1 (c1-1)).o else true,if y.t then(g1 (c1-1)).y else((g1 (c1-1)).y+y.a%8)%8⟩:=rfl;have m1:0≤y.a%8∧y.a%8<8:=⟨Int.emod_nonneg _ oM,Int.emod_lt_of_pos _ oM⟩;have m2:0≤y.b%8∧y.b%8<8:=⟨Int.emod_nonneg _ oM,Int.emod_lt_of_pos _ oM⟩;have m3:0≤y.c%8∧y.c%8<8:=⟨Int.emod_nonneg _ oM,Int.emod_lt_of_pos _ oM⟩;have hl1:(rowL (ccs g1) c1).length=c1*5:=cX fun _ _=>rfl;refine WpD.cut (α:=Unit) (fun _=>⟨[(1,.ptr 1 0),(4,.app 501 5 c1),(6,.ptr 6 0),(7,.ptr 501 ((c1-1)*5)),(11,.one (i6 (bD y))),(22,.one (slc 5 L n)),(23,.one (i6 n)),(24,.one (i6 i))],[(1,[i6 ((2:Nat):Int),jC,slc 5 L n]),(6,bkP y),(501,rowL (ccs (cU g1 (c1-1) ⟨(g1 (c1-1)).e,(g1 (c1-1)).d,(g1 (c1-1)).s,if y.t then(g1 (c1-1)).o else true,if y.t then(g1 (c1-1)).y else((g1 (c1-1)).y+y.a%8)%8⟩)) c1),(751,[])]⟩) ?_ ?_
  ·by_cases ht:y.t=true
   ·have hsz:¬(if y.t=true then(2:Int) else 1)=1:=by rw[if_pos ht];omega
    rw[if_pos ht] at hbD;rw[if_pos ht,if_pos ht,gZB g1 (c1-1) _ rfl,hbD];have p1:=dZu (x:=y.a%8) (y:=y.c%8) oM oM;have p2:=dZu (x:=y.b%8) (y:=y.b%8) oM oM;have G4:=aZo En (y.a%8*(y.c%8)-y.b%8*(y.b%8)) 8 oM oM;have f1:IntKind.i64.wrap (y.a%8*(y.c%8))=y.a%8*(y.c%8):=w64 oM oM;have f2:IntKind.i64.wrap (y.b%8*(y.b%8))=y.b%8*(y.b%8):=w64 oM oM;have f3:IntKind.i64.wrap (y.a%8*(y.c%8)-y.b%8*(y.b%8))=y.a%8*(y.c%8)-y.b%8*(y.b%8):=w64 oM oM;refine kR ?_;refine vX jj<|vEf jj<|jn<|jf jj<|jr<|vV jj jj<|vMu jj f1<|vV jj jj<|vMu jj f2<|vSu jj f3<|vC G4 tB<|vZ jj ?_;refine⟨(),?_⟩;try dsimp only
    exact Sub.mk sJ sJ
   ·have hsz:(if y.t=true then(2:Int) else 1)=1:=if_neg ht
    rw[if_neg ht] at hbD;rw[if_neg ht,if_neg ht,hbD];have hk3:(c1-1)*5+3<(rowL (ccs g1) c1).length:=oM;have hr3:=kZs (g:=g1) hc8 true;have hG:cU g1 (c1-1) ⟨(g1 (c1-1)).e,(g1 (c1-1)).d,(g1 (c1-1)).s,true,((g1 (c1-1)).y+y.a%8)%8⟩=cU (cU g1 (c1-1) ⟨(g1 (c1-1)).e,(g1 (c1-1)).d,(g1 (c1-1)).s,true,(g1 (c1-1)).y⟩) (c1-1) ⟨(g1 (c1-1)).e,(g1 (c1-1)).d,(g1 (c1-1)).s,true,((g1 (c1-1)).y+y.a%8)%8⟩:=(eZc ..).symm;have hg2:=jW g1 (c1-1) ⟨(g1 (c1-1)).e,(g1 (c1-1)).d,(g1 (c1-1)).s,true,(g1 (c1-1)).y⟩;rw[hG];generalize cU g1 (c1-1) ⟨(g1 (c1-1)).e,(g1 (c1-1)).d,(g1 (c1-1)).s,true,(g1 (c1-1)).y⟩=g2 at*;have hq4:(rowL (ccs g2) c1)[(c1-1)*5+4]? =some (ex (.int .i64 (g1 (c1-1)).y)):=lU (fun _ _=>rfl) hc8 oM (by show(coc (g2 (c1-1)))[4]? =_;rw[hg2];rfl)
    have hk4:(c1-1)*5+4<(rowL (ccs g2) c1).length:=by rw[show(rowL (ccs g2) c1).length=c1*5 from cX fun _ _=>rfl];omega
    have hr4:=kZr (g:=g2) hc8 (((g1 (c1-1)).y+y.a%8)%8);rw[hg2] at hr4;dsimp only at hr4;have f1:IntKind.i64.wrap ((g1 (c1-1)).y+y.a%8)=(g1 (c1-1)).y+y.a%8:=w64 oM oM;have f2:((g1 (c1-1)).y+y.a%8).tmod 8=((g1 (c1-1)).y+y.a%8)%8:=Int.tmod_eq_emod_of_nonneg oM;refine kR ?_;refine vX jj<|vEt jj<|jn<|jt jj<|vS<|jm jj<|vN jj<|vF jj<|jO (bX jj jj jj aM aM)<|jn<|jr<|vV jj jj<|vN jj<|vF jj<|jS (aX jj jj aM)<|jm jj<|vAd jj f1<|jS (bRe jj jj f2)<|vN jj<|vF jj<|jO (bX jj jj jj aM aM)<|jn ?_;refine⟨(),?_⟩;try dsimp only
    exact Sub.mk sJ sJ
  rintro⟨⟩;try dsimp only
  have hfin:csE y (g1,c1)=(cU g1 (c1-1) (bG y (g1 (c1-1))),c1):=rfl;rw[hfin,hbG] at hx1;clear hfin hbG hbD;have hdsz:IntKind.i64.wrap ((g1 (c1-1)).d+(if y.t=true then 2 else 1))=(g1 (c1-1)).d+(if y.t=true then 2 else 1):=by split<;>exact w64 oM oM
  generalize(if y.t=true then(g1 (c1-1)).o else true)=vo at*;generalize(if y.t=true then(g1 (c1-1)).y else((g1 (c1-1)).y+y.a%8)%8)=vy at*;generalize hco2:g1 (c1-1)=co at*;have hg2:=jW g1 (c1-1) ⟨co.e,co.d,co.s,vo,vy⟩;have hX:∀d s,cU g1 (c1-1) ⟨co.e,d,s,vo,vy⟩=cU (cU g1 (c1-1) ⟨co.e,co.d,co.s,vo,vy⟩) (c1-1) ⟨co.e,d,s,vo,vy⟩:=fun d s=>(eZc ..).symm;rw[hX] at hx1;clear hX hco2;generalize cU g1 (c1-1) ⟨co.e,co.d,co.s,vo,vy⟩=g2 at*;have hl2:(rowL (ccs g2) c1).length=c1*5:=cX fun _ _=>rfl;have hq1:(rowL (ccs g2) c1)[(c1-1)*5+1]? =some (i6 co.d):=lU (fun _ _=>rfl) hc8 oM (by show(coc (g2 (c1-1)))[1]? =_;rw[hg2];rfl)
  have hk1:(c1-1)*5+1<(rowL (ccs g2) c1).length:=oM;have hr2:=eZa (g:=g2) hc8 (co.d+(if y.t=true then 2 else 1));rw[hg2] at hr2;dsimp only at hr2;have hg3:=jW g2 (c1-1) ⟨co.e,co.d+(if y.t=true then 2 else 1),co.s,vo,vy⟩;have hX:∀s,cU g2 (c1-1) ⟨co.e,co.d+(if y.t=true then 2 else 1),s,vo,vy⟩=cU (cU g2 (c1-1) ⟨co.e,co.d+(if y.t=true then 2 else 1),co.s,vo,vy⟩) (c1-1) ⟨co.e,co.d+(if y.t=true then 2 else 1),s,vo,vy⟩:=fun s=>(eZc ..).symm;rw[hX] at hx1;clear hX;generalize cU g2 (c1-1) ⟨co.e,co.d+(if y.t=true then 2 else 1),co.s,vo,vy⟩=g3 at*;have hl3:(rowL (ccs g3) c1).length=c1*5:=cX fun _ _=>rfl;have hq2:(rowL (ccs g3) c1)[(c1-1)*5+2]? =some (i6 co.s):=lU (fun _ _=>rfl) hc8 oM (by show(coc (g3 (c1-1)))[2]? =_;rw[hg3];rfl)
  have hk2:(c1-1)*5+2<(rowL (ccs g3) c1).length:=oM;have hr3:=dZZ (g:=g3) hc8 (-co.s);rw[hg3] at hr3;dsimp only at hr3;have f1:IntKind.i64.wrap (-co.s)= -co.s:=w64 oM oM
  by_cases h3:bD y=3
  ·rw[show(if bD y=3∨bD y=5 then-co.s else co.s)= -co.s from if_pos (.inl h3)] at hx1
   refine kR ?_;refine jm jj<|vN jj<|vF jj<|jS (aX jj jj aM)<|vX jj<|vAd jj hdsz<|vN jj<|vF jj<|jO (bX jj jj jj aM aM)<|vJ<|jm jj<|vEt jj<|jm jj<|jk<|jk<|vq jj<|jn<|jt jj<|jr<|vV jj jj<|vN jj<|vF jj<|jS (aX jj jj aM)<|jS (gN jj (fun w=>fO w _ _) (dV f1))<|vN jj<|vF jj<|jO (bX jj jj jj aM aM)<|jn<|jr<|vAd jj wO<|jm jj<|jn ?_;refine⟨⟨i+1,oM⟩,?_,oD⟩;dsimp only;rw[hx1];dsimp only;exact Sub.mk sJ sJ
  by_cases h5:bD y=5
  ·rw[show(if bD y=3∨bD y=5 then-co.s else co.s)= -co.s from if_pos (.inr h5)] at hx1
   refine kR ?_;refine jm jj<|vN jj<|vF jj<|jS (aX jj jj aM)<|vX jj<|vAd jj hdsz<|vN jj<|vF jj<|jO (bX jj jj jj aM aM)<|vJ<|jm jj<|vEf jj<|jm jj<|jgm jj<|uEt jj<|vQ jj<|jn<|jt jj<|jr<|vV jj jj<|vN jj<|vF jj<|jS (aX jj jj aM)<|jS (gN jj (fun w=>fO w _ _) (dV f1))<|vN jj<|vF jj<|jO (bX jj jj jj aM aM)<|jn<|jr<|vAd jj wO<|jm jj<|jn ?_;refine⟨⟨i+1,oM⟩,?_,oD⟩;dsimp only;rw[hx1];dsimp only;exact Sub.mk sJ sJ
  ·rw[show(if bD y=3∨bD y=5 then-co.s else co.s)=co.s from if_neg (by rintro(h|h);exact h3 h;exact h5 h),gZB g3 (c1-1) _ hg3] at hx1
   refine kR ?_;refine jm jj<|vN jj<|vF jj<|jS (aX jj jj aM)<|vX jj<|vAd jj hdsz<|vN jj<|vF jj<|jO (bX jj jj jj aM aM)<|vJ<|jm jj<|vEf jj<|jm jj<|jgm jj<|uEf jj<|vQ jj<|jn<|jf jj<|jp<|jr<|vAd jj wO<|jm jj<|jn ?_;refine⟨⟨i+1,oM⟩,?_,oD⟩;dsimp only;rw[hx1];dsimp only;exact Sub.mk sJ sJ
 ·have e:i=n:=oM
  subst e;refine vS<|vLf jj<|jn<|js<|jf jj<|je ?_;refine WpD.sub (τ:=⟨[(4,.one (slc 5 (rowL (ccs (csB B i).1) (csB B i).2) (csB B i).2))],[]⟩) (Sub.pub 501 rfl rfl ⟨.inr (.inr (.inl ⟨_,_,_,rfl,rfl,cX fun _ _=>rfl,PLe.refl _⟩)),trivial⟩ trivial rfl) ?_;refine kR ?_;refine jm jj<|ja jj<|vZ jj<|ji ?_;exact lB rfl (.tmp rfl) (.tmp rfl) (PLe.refl _)
theorem hraw(A:Nat→Nat→Int)(n k m:Nat)(hF:Fm n A)(hk:k=dgs (det n A) 2)(hm:m=2^k)(hm2:m≤2147483648)(h1:1≤(dcG 2 k m n n (dc0 (eF A m))).n)(h8:ssz (dcG 2 k m n n (dc0 (eF A m))).B (dcG 2 k m n n (dc0 (eF A m))).n≤8)(hB:∀i,i<(dcG 2 k m n n (dc0 (eF A m))).n→BkOk 2 ((dcG 2 k m n n (dc0 (eF A m))).B i))(hs:∀i,i+1<(dcG 2 k m n n (dc0 (eF A m))).n→((dcG 2 k m n n (dc0 (eF A m))).B i).e≤((dcG 2 k m n n (dc0 (eF A m))).B (i+1)).e):
  Fn PZ En 42 [imt A n n] (cO 2 (csB (dcG 2 k m n n (dc0 (eF A m))).B (dcG 2 k m n n (dc0 (eF A m))).n).1 (csB (dcG 2 k m n n (dc0 (eF A m))).B (dcG 2 k m n n (dc0 (eF A m))).n).2):=by
 have C1:=gZn En A n 2 k m hF oM oM hk hm hm2;have C2:=mZb En _ _ h1 h8 hB hs;unfold cO;rw[tU];generalize dcG 2 k m n n (dc0 (eF A m))=S at*;generalize(csB S.B S.n).2=c' at*;generalize(csB S.B S.n).1=g at*;refine aA Tryz.func42 rfl Tryz.ntmps42 rfl ?_;intro w0 h0;refine vS<|vA jj<|vJ<|jm jj<|vC C1 tB<|vC C2 tA<|jm jj<|vE jj<|vE jj<|ja jj<|vZ jj<|vS<|jm jj<|jS (aU (ps:=[(_,_),(_,_)]) ⟨jj,Part.c jj,jj,Part.c jj,trivial⟩ jj)<|vP jj<|jn<|ji ?_;exact rtC rfl jj jj
end
end
section
open Go.RowKit Limb Det Num
theorem kZc{n r:Nat}{M:Mx}(hr:r<n)(h:∀x,x<n→M r x=0):det n M=0:=by
 have:=kY (A:=M) (B:=M) (C:=M) (k:=r) (x:=0) (y:=0) hr (fun c hc=>by rw[h c hc];omega) (fun _ _ _ _ _=>rfl) (fun _ _ _ _ _=>rfl)
 omega
end
section
open Go.RowKit Limb Det Num
end
section
open Go.RowKit Limb Det Num
def shM(r:Nat)(G:Nat→Nat→Int):Nat→Nat→Int:=fun i x=>G (r+i) (r+x)
theorem iZl{m n r i j:Nat}{c:Int}{G:Nat→Nat→Int}(hi:r+i<n){a b:Nat}(ha:a<n-r)(hb:b<n-r):shM r (addM m c (r+i) (r+j) n G) a b=addM m c i j (n-r) (shM r G) a b:=by
 unfold shM;rw[iD hi oM oM,iD oM ha hb]
 by_cases h1:a=j
 ·by_cases h2:b=j
  ·rw[if_pos oM,if_pos oM,if_pos h1,if_pos h2]
  ·rw[if_pos oM,if_neg oM,if_pos h1,if_neg h2]
 ·by_cases h2:b=j
  ·rw[if_neg oM,if_pos oM,if_neg h1,if_pos h2]
  ·rw[if_neg oM,if_neg oM,if_neg h1,if_neg h2]
theorem lZi{r i j:Nat}{G:Nat→Nat→Int}(a b:Nat):shM r (twM (r+i) (r+j) G) a b=twM i j (shM r G) a b:=by
 have e:∀x,tw (r+i) (r+j) (r+x)=r+tw i j x:=fun x=>by unfold tw;grind
 unfold shM twM;rw[e,e]
theorem sS{q m x:Int}(h1:q∣m)(h2:q∣x):q∣x%m:=by
 rw[Int.emod_def];exact Int.dvd_sub h2 (Int.dvd_mul_of_dvd_left h1)
structure RJ(q m n r:Nat)(d D:Int)(G:Nat→Nat→Int):Prop where
 mb:MB n m G
 sy:Sy n G
 dt:Mo (m:Int) (D*det (n-r) (shM r G)) d
 dv:∀i x,r≤i→i<n→r≤x→x<n→(q:Int)∣G i x
theorem RJ.weak{q q' m n r:Nat}{d D:Int}{G:Nat→Nat→Int}(h:RJ q m n r d D G)(hq:∀i x,r≤i→i<n→r≤x→x<n→(q':Int)∣G i x):RJ q' m n r d D G:=⟨h.mb,h.sy,h.dt,hq⟩
theorem RJ.addM{q m n r i j:Nat}{d D c:Int}{G:Nat→Nat→Int}(h:RJ q m n r d D G)(hm:1≤m)(hqm:q∣m)(hi:i<n)(hj:j<n)(hij:i≠j)(hri:r≤i)(hrj:r≤j):RJ q m n r d D (addM m c i j n G):=by
 obtain⟨i,rfl⟩:∃i',i=r+i':=⟨i-r,oM⟩;obtain⟨j,rfl⟩:∃j',j=r+j':=⟨j-r,oM⟩;have hqm':(q:Int)∣(m:Int):=Int.natCast_dvd_natCast.2 hqm;refine⟨h.mb.addM hm c _ _,h.sy.addM hi hj,?_,fun a b ha1 ha2 hb1 hb2=>?_⟩
 ·rw[cG fun a b ha hb=>iZl hi ha hb]
  exact((Mo.refl _ D).mul (kZf oM oM oM)).trans h.dt
 ·have D1:=fun x y hx1 hx2 hy1 hy2=>h.dv x y hx1 hx2 hy1 hy2
  rw[iD hi ha2 hb2];split
  ·split
   ·exact sS hqm' (Int.dvd_add (sS hqm' (Int.dvd_add (D1 _ _ hrj hj hrj hj) (Int.dvd_mul_of_dvd_right (D1 _ _ hrj hj hri hi)))) (Int.dvd_mul_of_dvd_right (sS hqm' (Int.dvd_add (D1 _ _ hri hi hrj hj) (Int.dvd_mul_of_dvd_right (D1 _ _ hri hi hri hi))))))
   ·exact sS hqm' (Int.dvd_add (D1 _ _ hrj hj hb1 hb2) (Int.dvd_mul_of_dvd_right (D1 _ _ hri hi hb1 hb2)))
  ·split
   ·exact sS hqm' (Int.dvd_add (D1 _ _ ha1 ha2 hrj hj) (Int.dvd_mul_of_dvd_right (D1 _ _ ha1 ha2 hri hi)))
   ·exact D1 _ _ ha1 ha2 hb1 hb2
theorem nZs{r i j x:Nat}(hi:r≤i)(hj:r≤j)(hx:r≤x):r≤tw i j x:=by unfold tw;split<;>(try split)<;>omega
theorem RJ.twM{q m n r a b:Nat}{d D:Int}{G:Nat→Nat→Int}(h:RJ q m n r d D G)(ha:a<n)(hra:r≤a)(hb:b<n)(hrb:r≤b):RJ q m n r d D (twM a b G):=by
 refine⟨h.mb.twM ha hb,h.sy.twM ha hb,?_,fun i x hi1 hi2 hx1 hx2=>h.dv _ _ (nZs hra hrb hi1) (qK ha hb hi2) (nZs hra hrb hx1) (qK ha hb hx2)⟩;obtain⟨a,rfl⟩:∃i',a=r+i':=⟨a-r,oM⟩;obtain⟨b,rfl⟩:∃j',b=r+j':=⟨b-r,oM⟩;rw[cG fun i x _ _=>lZi i x,mZs oM oM];exact h.dt
theorem zT{n:Nat}{M:Mx}(h:∀i,i<n→M (i+1) 0=0):det (n+1) M=M 0 0*det n (fun i x=>M (i+1) (x+1)):=by
 have e:det (n+1) M=Det.sg 0*M 0 0*det n (mn 0 M):=bZx (f:=fun i=>Det.sg i*M i 0*det n (mn i M)) (k:=0) oM fun i hi hne=>by
  obtain⟨i,rfl⟩:∃i',i=i'+1:=⟨i-1,oM⟩;rw[h i oM];simp
 rw[e,show Det.sg 0=1 from rfl,Int.one_mul]
 exact congrArg _ (cG fun r c _ _=>by show M (sk 0 r) (c+1)=_;rw[nQ])
theorem hZ5{n:Nat}{M:Mx}(h0:∀i,i<n→M (i+2) 0=0)(h1:∀i,i<n→M (i+2) 1=0):det (n+2) M=(M 0 0*M 1 1-M 1 0*M 0 1)*det n (fun i x=>M (i+2) (x+2)):=by
 have e:det (n+2) M=Det.sg 0*M 0 0*det (n+1) (mn 0 M)+Det.sg 1*M 1 0*det (n+1) (mn 1 M):=iZf (f:=fun i=>Det.sg i*M i 0*det (n+1) (mn i M)) (k:=0) oM fun i hi hne hne2=>by
  obtain⟨i,rfl⟩:∃i',i=i'+2:=⟨i-2,oM⟩;rw[h0 i oM];simp
 have e0:det (n+1) (mn 0 M)=M 1 1*det n (fun i x=>M (i+2) (x+2)):=by
  rw[zT (M:=mn 0 M) fun i hi=>by show M (sk 0 (i+1)) (0+1)=0;rw[nQ];exact h1 i hi]
  exact congrArg _ (cG fun r c _ _=>by show M (sk 0 (r+1)) (c+1+1)=_;rw[nQ])
 have s1:∀r,sk 1 (r+1)=r+2:=fun r=>by unfold sk;rw[if_neg oM]
 have e1:det (n+1) (mn 1 M)=M 0 1*det n (fun i x=>M (i+2) (x+2)):=by
  rw[zT (M:=mn 1 M) fun i hi=>by show M (sk 1 (i+1)) (0+1)=0;rw[s1];exact h1 i hi]
  exact congrArg _ (cG fun r c _ _=>by show M (sk 1 (r+1)) (c+1+1)=_;rw[s1])
 rw[e,e0,e1,show Det.sg 0=1 from rfl,show Det.sg 1= -1 from rfl]
 generalize det n (fun i x=>M (i+2) (x+2))=X;grind
theorem RJ.next{q m n r:Nat}{d D:Int}{G:Nat→Nat→Int}(h:RJ q m n r d D G)(hr:r<n)(hz:∀y,r<y→y<n→G r y=0):RJ q m n (r+1) d (D*G r r) G:=by
 refine⟨h.mb,h.sy,?_,fun i x hi1 hi2 hx1 hx2=>h.dv i x oM hi2 oM hx2⟩;have h1:=h.dt;obtain⟨N,hN⟩:∃N,n-r=N+1:=⟨n-r-1,oM⟩;rw[hN,zT fun i hi=>by show G (r+(i+1)) (r+0)=0;rw[h.sy _ _ oM oM];exact hz _ oM oM] at h1
 rw[show n-(r+1)=N by omega]
 have e:det N (shM (r+1) G)=det N (fun i x=>shM r G (i+1) (x+1)):=cG fun i x _ _=>by
  unfold shM;rw[show r+1+i=r+(i+1) by omega,show r+1+x=r+(x+1) by omega]
 rw[e,Int.mul_assoc];exact h1
theorem RJ.next2{q m n r:Nat}{d D:Int}{G:Nat→Nat→Int}(h:RJ q m n r d D G)(hr:r+1<n)(hz:∀y,r+1<y→y<n→G r y=0)(hz2:∀y,r+1<y→y<n→G (r+1) y=0):RJ q m n (r+2) d (D*(G r r*G (r+1) (r+1)-G r (r+1)*G r (r+1))) G:=by
 refine⟨h.mb,h.sy,?_,fun i x hi1 hi2 hx1 hx2=>h.dv i x oM hi2 oM hx2⟩;have h1:=h.dt;obtain⟨N,hN⟩:∃N,n-r=N+2:=⟨n-r-2,oM⟩;rw[hN,hZ5 (fun i hi=>by show G (r+(i+2)) (r+0)=0;rw[h.sy _ _ oM oM];exact hz _ oM oM) (fun i hi=>by show G (r+(i+2)) (r+1)=0;rw[h.sy _ _ oM oM];exact hz2 _ oM oM)] at h1
 rw[show n-(r+2)=N by omega]
 have e:det N (shM (r+2) G)=det N (fun i x=>shM r G (i+2) (x+2)):=cG fun i x _ _=>by
  unfold shM;rw[show r+2+i=r+(i+2) by omega,show r+2+x=r+(x+2) by omega]
 have hs:G (r+1) r=G r (r+1):=h.sy _ _ oM oM;rw[e,Int.mul_assoc];have h1:Mo (m:Int) (D*((G r r*G (r+1) (r+1)-G (r+1) r*G r (r+1))*det N fun i x=>shM r G (i+2) (x+2))) d:=h1;rw[hs] at h1;exact h1
theorem xD{p k:Nat}(hp:2≤p){x:Int}(h0:0≤x){e:Nat}(he:e≤vlZ p k x):((p^e:Nat):Int)∣x:=by
 obtain⟨x,rfl⟩:=Int.eq_ofNat_of_zero_le h0;refine Int.natCast_dvd_natCast.2 ?_;unfold vlZ bZp at he;rw[Int.toNat_natCast] at he
 by_cases h:x=0
 ·subst h;exact Nat.dvd_zero _
 ·rw[if_neg h] at he
  exact Nat.dvd_trans (Nat.pow_dvd_pow p he) (lZ hp x)
theorem mZm{p:Nat}(hp:2≤p){n e:Nat}(h0:n≠0)(h1:p^e∣n)(h2:¬p^(e+1)∣n):fH p n=e:=by
 have h3:=lZ hp n;rcases Nat.lt_trichotomy (fH p n) e with h|h|h
 ·exfalso
  have h4:=uM hp n h0;obtain⟨c,hc⟩:=Nat.dvd_trans (Nat.pow_dvd_pow p (show fH p n+1≤e by omega)) h1
  apply h4;have h5:0<p^fH p n:=Nat.pow_pos oM;have:n/p^fH p n=p*c:=Nat.div_eq_of_eq_mul_right h5 (by rw[←Nat.mul_assoc,←Nat.pow_succ];exact hc)
  rw[this,Nat.mul_mod_right]
 ·exact h
 ·exact absurd (Nat.dvd_trans (Nat.pow_dvd_pow p h) h3) h2
theorem fZz{p k m:Nat}(hp:2≤p)(hm:m=p^k){x:Int}(h0:0≤x)(hx:x<m)(hne:x≠0):vlZ p k x<k∧∃a:Int,x=((p^vlZ p k x:Nat):Int)*a∧0<a∧¬(p:Int)∣a:=by
 obtain⟨x,rfl⟩:=Int.eq_ofNat_of_zero_le h0;have hx0:x≠0:=oM;have e:vlZ p k (x:Int)=fH p x:=by
  unfold vlZ bZp;rw[Int.toNat_natCast,if_neg hx0]
 rw[e];refine⟨gZx hp hx0 (by rw[←hm];omega),((x/p^fH p x:Nat):Int),?_,?_,fun h=>?_⟩
 ·rw[←Int.natCast_mul,Nat.mul_div_cancel' (lZ hp x)]
 ·have:=Nat.div_pos (Nat.le_of_dvd oM (lZ hp x)) (Nat.pow_pos (n:=fH p x) (show 0<p by omega))
  omega
 ·exact uM hp x hx0 (Nat.mod_eq_zero_of_dvd (Int.natCast_dvd_natCast.1 h))
theorem eZy{p k:Nat}(hp:2≤p){x a:Int}{e:Nat}(h0:0≤x)(h:x=((p^e:Nat):Int)*a)(ha:¬(p:Int)∣a):vlZ p k x=e:=by
 have hne:x≠0:=fun h'=>by
  rw[h'] at h;have hq:((p^e:Nat):Int)≠0:=by have:=Nat.pow_pos (n:=e) (show 0<p by omega);omega
  rcases Int.mul_eq_zero.1 h.symm with h2|h2
  ·exact hq h2
  ·exact ha (by rw[h2];exact Int.dvd_zero _)
 obtain⟨x,rfl⟩:=Int.eq_ofNat_of_zero_le h0;have hx0:x≠0:=oM;unfold vlZ bZp;rw[Int.toNat_natCast,if_neg hx0];refine mZm hp hx0 (Int.natCast_dvd_natCast.1 ⟨a,h⟩) fun h2=>ha ?_;obtain⟨c,hc⟩:=Int.natCast_dvd_natCast.2 h2;have hq:((p^e:Nat):Int)≠0:=by have:=Nat.pow_pos (n:=e) (show 0<p by omega);omega
 refine⟨c,Int.eq_of_mul_eq_mul_left hq ?_⟩;rw[←h,hc,Nat.pow_succ,Int.natCast_mul,Int.mul_assoc]
theorem fZk{p k v E:Nat}(hp:2≤p){a b:Int}(hv:v<k)(ha:¬(p:Int)∣a)(hb:¬(p:Int)∣b)(h:Mo ((p^k:Nat):Int) (((p^E:Nat):Int)*a) (((p^v:Nat):Int)*b)):E=v:=by
 obtain⟨t,ht⟩:=h;have key:∀(E v:Nat) (a b t:Int),E<v→E<k→((p^E:Nat):Int)*a-((p^v:Nat):Int)*b=((p^k:Nat):Int)*t→(p:Int)∣a:=fun E v a b t h1 h2 ht=>by
  obtain⟨x,rfl⟩:∃x,v=E+1+x:=⟨v-E-1,oM⟩;obtain⟨y,rfl⟩:∃y,k=E+1+y:=⟨k-E-1,oM⟩;have hq:((p^E:Nat):Int)≠0:=by have:=Nat.pow_pos (n:=E) (show 0<p by omega);omega
  refine⟨((p^x:Nat):Int)*b+((p^y:Nat):Int)*t,Int.eq_of_mul_eq_mul_left hq ?_⟩;have e1:∀z,((p^(E+1+z):Nat):Int)=((p^E:Nat):Int)*(p:Int)*((p^z:Nat):Int):=fun z=>by rw[Nat.pow_add,Nat.pow_succ,Int.natCast_mul,Int.natCast_mul]
  rw[e1,e1] at ht;grind
 rcases Nat.lt_trichotomy E v with h|h|h
 ·exact absurd (key E v a b t h oM ht) ha
 ·exact h
 ·exact absurd (key v E b a (-t) h hv (by grind)) hb
theorem bZF{p:Nat}(hp:Pr p){a:Nat}(ha:¬p∣a):∀k,Nat.gcd a (p^k)=1
 |0=>by rw[Nat.pow_zero,Nat.gcd_one_right]
 |k+1=>by
  have h1:Nat.Coprime a p:=by
   by_cases h:Nat.gcd a p=1
   ·exact h
   ·have h1:=hp.eq_of_dvd (Nat.gcd_dvd_right a p) h
    exact absurd (h1▸Nat.gcd_dvd_left a p) ha
  exact Nat.Coprime.mul_right (bZF hp ha k) h1
end
section
open Go.RowKit Limb Det Num
section
variable(En:Ev)
end
end
section
open Go.RowKit Limb Det Num
theorem pZl{p:Nat}(hp:OP p){a b:Int}(h:(p:Int)∣a*b):(p:Int)∣a∨(p:Int)∣b:=by
 have h1:=(kT hp).2 h;rw[jZz hp] at h1;rcases Int.mul_eq_zero.1 h1 with h|h
 ·exact .inl ((kT hp).1 h)
 ·exact .inr ((kT hp).1 h)
end
section
open Go.RowKit Limb Det Num
theorem iZT{m q mq r j:Nat}{u w a:Int}{G:Nat→Nat→Int}(hq:1≤q)(hmq:m=q*mq)(ha:G r r=(q:Int)*a)(hu:u*a=1+w*(mq:Int))(hj:(q:Int)∣G r j):(G r j+qX m r q u j G*G r r)%(m:Int)=0:=by
 obtain⟨X,hX⟩:=hj;have e1:m/q=mq:=by rw[hmq];exact Nat.mul_div_cancel_left _ oM
 unfold qX;rw[e1,hX,Int.mul_ediv_cancel_left _ (show(q:Int)≠0 by omega),ha]
 obtain⟨l,hl⟩:=Mo.mod (mq:Int) (X*u);refine Int.emod_eq_zero_of_dvd ⟨-(l*a)-X*w,?_⟩;rw[hmq,Int.natCast_mul];generalize(X*u)%(mq:Int)=z at*;grind
theorem dZm{m q mq n r:Nat}{d D u w a:Int}(hq:1≤q)(hmq:m=q*mq)(hm:1≤m)(hr:r<n)(hu:u*a=1+w*(mq:Int)):∀{f j:Nat} {x:MM},j+f=n→r<j→RJ q m n r d D x.1→x.1 r r=(q:Int)*a→(∀y,r<y→y<j→x.1 r y=0)→
  RJ q m n r d D (yJ m n r q u f j x).1∧(yJ m n r q u f j x).1 r r=x.1 r r∧∀y,r<y→y<n→(yJ m n r q u f j x).1 r y=0
 |0,j,x,hj,hrj,h,_,hz=>⟨h,rfl,fun y h1 h2=>hz y h1 oM⟩
 |f+1,j,x,hj,hrj,h,ha,hz=>by
  have hjn:j<n:=oM;have g:RJ q m n r d D (addM m (qX m r q u j x.1) r j n x.1):=h.addM hm ⟨mq,hmq⟩ hr hjn oM (Nat.le_refl r) oM;have er:∀y,y<n→y≠j→addM m (qX m r q u j x.1) r j n x.1 r y=x.1 r y:=fun y hy hne=>by rw[iD hr hr hy,if_neg oM,if_neg hne]
  have ej:addM m (qX m r q u j x.1) r j n x.1 r j=0:=by
   rw[iD hr hr hjn,if_neg oM,if_pos rfl];exact iZT hq hmq ha hu (h.dv r j (Nat.le_refl r) hr oM hjn)
  obtain⟨a1,a2,a3⟩:=dZm hq hmq hm hr hu (f:=f) (j:=j+1) (x:=(addM m (qX m r q u j x.1) r j n x.1,colA m (qX m r q u j x.1) r j n x.2)) oM oM g (by dsimp only;rw[er r hr oM];exact ha) (fun y h1 h2=>by
   dsimp only
   by_cases e:y=j
   ·subst e;exact ej
   ·rw[er y oM e];exact hz y h1 oM)
  exact⟨a1,a2.trans (er r hr oM),a3⟩
theorem yY{p k m n r q0:Nat}{d D:Int}{G:Nat→Nat→Int}(hp:2≤p)(hm:m=p^k)(h:RJ q0 m n r d D G)(hr:r<n)(hd:¬(m:Int)∣d):
  (∀i x,r≤i→i<n→r≤x→x<n→((p^vlZ p k (G (aP p k n G r).1 (aP p k n G r).2):Nat):Int)∣G i x)∧G (aP p k n G r).1 (aP p k n G r).2≠0:=by
 obtain⟨⟨ha,hb⟩,s1,s2,s3⟩:=lC (p:=p) (k:=k) (A:=G) hr;obtain⟨han,hbn⟩:=iW (p:=p) (k:=k) (A:=G) hr;generalize(aP p k n G r).1=a at*;generalize(aP p k n G r).2=b at*;have le:∀i x,r≤i→i<n→r≤x→x<n→vlZ p k (G a b)≤vlZ p k (G i x):=fun i x h1 h2 h3 h4=>by
  rcases Nat.lt_trichotomy i x with e|e|e
  ·exact s2 i x h1 e h4
  ·subst e;exact s1 i h1 h2
  ·rw[h.sy i x h2 h4];exact s2 x i h3 e h2
 refine⟨fun i x h1 h2 h3 h4=>xD hp (h.mb i x h2 h4).1 (le i x h1 h2 h3 h4),fun h0=>hd ?_⟩;have vk:vlZ p k (G a b)=k:=by rw[h0];rfl
 rw[vk] at le;have zero:∀i x,r≤i→i<n→r≤x→x<n→G i x=0:=fun i x h1 h2 h3 h4=>by
  by_cases e:G i x=0
  ·exact e
  ·have:=(fZz hp hm (h.mb i x h2 h4).1 (h.mb i x h2 h4).2 e).1
   have:=le i x h1 h2 h3 h4;omega
 have hz:det (n-r) (shM r G)=0:=kZc (r:=0) oM fun x hx=>zero _ _ oM oM oM oM;have h1:=h.dt;rw[hz,Int.mul_zero] at h1;obtain⟨t,ht⟩:=h1;exact⟨-t,by grind⟩
theorem e_up{p e0 e:Nat}(hp:2≤p){x a:Int}(h0:((p^e0:Nat):Int)∣x)(h:x=((p^e:Nat):Int)*a)(ha:¬(p:Int)∣a):e0≤e:=by
 rcases Nat.lt_or_ge e e0 with h1|h1
 ·exfalso
  obtain⟨c,hc⟩:=h0;obtain⟨y,rfl⟩:∃y,e0=e+1+y:=⟨e0-e-1,oM⟩;have hq:((p^e:Nat):Int)≠0:=by have:=Nat.pow_pos (n:=e) (show 0<p by omega);omega
  refine ha ⟨((p^y:Nat):Int)*c,Int.eq_of_mul_eq_mul_left hq ?_⟩;rw[←h,hc,Nat.pow_add,Nat.pow_add,Nat.pow_one,Int.natCast_mul,Int.natCast_mul];grind
 ·exact h1
structure Piv(p k m n r e0:Nat)(d D:Int)(G:Nat→Nat→Int):Prop where
 ri:RJ (p^vlZ p k (G r r)) m n r d D G
 e0:e0≤vlZ p k (G r r)
 ek:vlZ p k (G r r)<k
 a:∃a:Int,G r r=((p^vlZ p k (G r r):Nat):Int)*a∧0<a∧¬(p:Int)∣a
theorem nZt(r a:Nat)(G:Nat→Nat→Int):twM r a G r r=G a a:=by
 have e1:tw r a r=a:=by unfold tw;rw[if_pos rfl]
 show G (tw r a r) (tw r a r)=_
 rw[e1]
theorem dZk{p k m n r e0:Nat}{d D:Int}{G:Nat→Nat→Int}(hp:2≤p)(hm:m=p^k)(h:RJ (p^e0) m n r d D G)(hr:r<n)(hd:¬(m:Int)∣d)(hab:(aP p k n G r).1=(aP p k n G r).2):Piv p k m n r e0 d D (twM r (aP p k n G r).1 G):=by
 obtain⟨h1,h2⟩:=yY hp hm h hr hd;obtain⟨⟨ha,hb⟩,_,_,_⟩:=lC (p:=p) (k:=k) (A:=G) hr;obtain⟨han,hbn⟩:=iW (p:=p) (k:=k) (A:=G) hr;rw[←hab] at h1 h2;generalize(aP p k n G r).1=a at*;obtain⟨h3,x,hx1,hx2,hx3⟩:=fZz hp hm (h.mb a a han han).1 (h.mb a a han han).2 h2;have e:=nZt r a G;exact⟨by rw[e];exact(h.weak h1).twM hr (Nat.le_refl r) han ha,by rw[e];exact e_up hp (h.dv a a ha han ha han) hx1 hx3,by rw[e];exact h3,by rw[e];exact⟨x,hx1,hx2,hx3⟩⟩
theorem mZw{p k m n r e0:Nat}{d D:Int}{x:MM}(hp:OP p)(hm:m=p^k)(h:RJ (p^e0) m n r d D x.1)(hr:r<n)(hd:¬(m:Int)∣d):Piv p k m n r e0 d D (dcA p k m n r x).1:=by
 obtain⟨_,hp3,_⟩:=hp.half;have hp2:2≤p:=oM;have hm1:1≤m:=by rw[hm];exact Nat.pow_pos oM
 have hA:(dcA p k m n r x).1=twM r (aP p k n x.1 r).1 (uR p k m n r x).1:=rfl;rw[hA];unfold uR
 by_cases hab:(aP p k n x.1 r).1=(aP p k n x.1 r).2
 ·rw[if_pos hab]
  exact dZk hp2 hm h hr hd hab
 ·rw[if_neg hab]
  obtain⟨h1,h2⟩:=yY hp2 hm h hr hd;obtain⟨⟨ha,hb⟩,_,_,s3⟩:=lC (p:=p) (k:=k) (A:=x.1) hr;obtain⟨han,hbn⟩:=iW (p:=p) (k:=k) (A:=x.1) hr;have s3:=s3 hab;dsimp only;obtain⟨G,T⟩:=x;dsimp only at*;generalize(aP p k n G r).1=a at*;generalize(aP p k n G r).2=b at*;obtain⟨h3,u,hu1,hu2,hu3⟩:=fZz hp2 hm (h.mb a b han hbn).1 (h.mb a b han hbn).2 h2;have hee:=e_up hp2 (h.dv a b ha han hb hbn) hu1 hu3;generalize vlZ p k (G a b)=e at*;obtain⟨s,hs⟩:=xD hp2 (h.mb a a han han).1 (show e+1≤_ from s3 a ha han)
  obtain⟨t,ht⟩:=xD hp2 (h.mb b b hbn hbn).1 (show e+1≤_ from s3 b hb hbn)
  have hsy:=h.sy b a hbn han;obtain⟨y,rfl⟩:∃y,k=e+1+y:=⟨k-e-1,oM⟩;have hqm:p^e∣m:=by rw[hm];exact Nat.pow_dvd_pow p oM
  have R:=((h.weak h1).addM (c:=1) hm1 hqm hbn han (fun e=>hab e.symm) hb ha);have hv:∃z:Int,addM m 1 b a n G a a=((p^e:Nat):Int)*(2*u+p*z):=by
   rw[iD hbn han han,if_pos rfl,if_pos rfl];have hmo:Mo (m:Int) (((G a a+1*G a b)%(m:Int)+1*((G b a+1*G b b)%(m:Int)))%(m:Int)) ((G a a+1*G a b)+1*(G b a+1*G b b)):=(Mo.mod _ _).trans ((Mo.mod _ _).add ((Mo.refl _ 1).mul (Mo.mod _ _)));obtain⟨l,hl⟩:=hmo;refine⟨s+t+((p^y:Nat):Int)*l,?_⟩;rw[hsy,hs,ht,hu1,hm,Nat.pow_add,Nat.pow_add,Nat.pow_one,Int.natCast_mul,Int.natCast_mul] at hl;rw[hsy,hs,ht,hu1,hm,Nat.pow_add,Nat.pow_add,Nat.pow_one,Int.natCast_mul,Int.natCast_mul];grind
  obtain⟨z,hz⟩:=hv;have hnd:¬(p:Int)∣2*u+p*z:=fun hdv=>by
   have h5:(p:Int)∣2*u:=by
    obtain⟨c,hc⟩:=hdv;exact⟨c-z,by grind⟩
   rcases pZl hp h5 with h6|h6
   ·have:=Int.le_of_dvd oM h6
    omega
   ·exact hu3 h6
  have hmb:=R.mb a a han han;have ev:=eZy (k:=e+1+y) hp2 hmb.1 hz hnd;have hpos:0<2*u+p*z:=by
   have hq:0<((p^e:Nat):Int):=by have:=Nat.pow_pos (n:=e) (show 0<p by omega);omega
   rcases Int.lt_trichotomy (2*u+p*z) 0 with h5|h5|h5
   ·have:=Int.mul_neg_of_pos_of_neg hq h5
    omega
   ·exact absurd (by rw[h5];exact Int.dvd_zero _) hnd
   ·exact h5
  have e1:=nZt r a (addM m 1 b a n G);exact⟨by rw[e1,ev];exact R.twM hr (Nat.le_refl r) han ha,by rw[e1,ev];exact hee,by rw[e1,ev];exact h3,by rw[e1,ev];exact⟨_,hz,hpos,hnd⟩⟩
theorem lZB{p k m n r e0:Nat}{d D:Int}{x:MM}(hp:Pr p)(hp2:2≤p)(hm:m=p^k)(hr:r<n)(h:Piv p k m n r e0 d D x.1):
  RJ (p^vlZ p k (x.1 r r)) m n (r+1) d (D*(((p^vlZ p k (x.1 r r):Nat):Int)*((yI p k m n r x).1 r r/(pvQ p k x.1 r:Int)))) (yI p k m n r x).1∧0<(yI p k m n r x).1 r r/(pvQ p k x.1 r:Int)∧¬(p:Int)∣(yI p k m n r x).1 r r/(pvQ p k x.1 r:Int):=by
 obtain⟨a,ha,hpos,hnd⟩:=h.a;have hR:=h.ri;have hk:=h.ek;have hQ:pvQ p k x.1 r=p^vlZ p k (x.1 r r):=rfl;unfold yI pvU;rw[hQ];generalize vlZ p k (x.1 r r)=e at*;obtain⟨y,rfl⟩:∃y,k=e+y:=⟨k-e,oM⟩;have hq:1≤p^e:=Nat.pow_pos oM;have hmq:m=p^e*p^y:=by rw[hm,Nat.pow_add]
 have hm1:1≤m:=by rw[hm];exact Nat.pow_pos oM
 obtain⟨a,rfl⟩:=Int.eq_ofNat_of_zero_le (show 0≤a by omega)
 have e1:m/p^e=p^y:=by rw[hmq];exact Nat.mul_div_cancel_left _ hq
 have e2:(x.1 r r).toNat/p^e=a:=by
  rw[ha,←Int.natCast_mul,Int.toNat_natCast];exact Nat.mul_div_cancel_left _ hq
 rw[e1,e2];obtain⟨w,hw⟩:=dZf (a:=a) (m:=p^y) (bZF hp (fun hd=>hnd (Int.natCast_dvd_natCast.2 hd)) y);obtain⟨a1,a2,a3⟩:=dZm (d:=d) (D:=D) hq hmq hm1 hr hw (f:=n-(r+1)) (j:=r+1) (x:=x) oM oM hR ha (fun y h1 h2=>oM);have a4:=a1.next hr a3;have e3:(yJ m n r (p^e) (rcp a (p^y)) (n-(r+1)) (r+1) x).1 r r/((p^e:Nat):Int)=a:=by
  rw[a2,ha];exact Int.mul_ediv_cancel_left _ oM
 rw[e3];rw[a2,ha] at a4;exact⟨a4,hpos,hnd⟩
end
section
open Go.RowKit Limb Det Num
theorem eZQ{p:Nat}(hp:Pr p){a b:Int}(h:(p:Int)∣a*b):(p:Int)∣a∨(p:Int)∣b:=hp.dvd_mul_int h
theorem hZX{mq:Nat}(u s t x y:Int):Mo (mq:Int) (twF mq u s t x y) ((s*x-t*y)*u):=by
 unfold twF;exact(Mo.mod _ _).trans (((Mo.mod _ _).trans (((Mo.mod _ _).add ((Mo.refl _ (-1)).mul (Mo.mod _ _)))|>fun h=>by
  have e1:s*x%(mq:Int)-t*y%(mq:Int)=s*x%(mq:Int)+ -1*(t*y%(mq:Int)):=oM;have e2:s*x-t*y=s*x+ -1*(t*y):=oM;rw[e1,e2];exact h)).mul (Mo.refl _ u))
theorem kZR{m q mq n r j:Nat}{a b c u w:Int}{x:MM}(hq:1≤q)(hmq:m=q*mq)(hr:r+1<n)(hj:r+1<j)(hjn:j<n)(hs:Sy n x.1)(ha:x.1 r r=(q:Int)*a)(hb:x.1 r (r+1)=(q:Int)*b)(hc:x.1 (r+1) (r+1)=(q:Int)*c)(hu:u*(a*c-b*b)=1+w*(mq:Int))(h1:(q:Int)∣x.1 r j)(h2:(q:Int)∣x.1 (r+1) j):
  (twS m mq n r j q a b c u x).1 r j=0∧(twS m mq n r j q a b c u x).1 (r+1) j=0:=by
 obtain⟨X,hX⟩:=h1;obtain⟨Y,hY⟩:=h2;have hq0:(q:Int)≠0:=oM;have hs1:=hs (r+1) r oM oM;unfold twS;dsimp only;rw[show x.1 r j/(q:Int)=X by rw[hX];exact Int.mul_ediv_cancel_left _ hq0,show x.1 (r+1) j/(q:Int)=Y by rw[hY];exact Int.mul_ediv_cancel_left _ hq0]
 obtain⟨l1,hl1⟩:=hZX (mq:=mq) u c b X Y;obtain⟨l2,hl2⟩:=hZX (mq:=mq) u a b Y X;generalize twF mq u c b X Y=F at*;generalize twF mq u a b Y X=H at*;have hm:(m:Int)=(q:Int)*(mq:Int):=by rw[hmq,Int.natCast_mul]
 have e1:∀i,i<n→i≠j→addM m (-F) r j n x.1 i j=(x.1 i j+ -F*x.1 i r)%(m:Int):=fun i hi hne=>by rw[iD oM hi hjn,if_neg hne,if_pos rfl]
 have e2:∀i y,i<n→y<n→i≠j→y≠j→addM m (-F) r j n x.1 i y=x.1 i y:=fun i y hi hy hne hne2=>by rw[iD oM hi hy,if_neg hne,if_neg hne2]
 have e3:∀i,i<n→i≠j→addM m (-H) (r+1) j n (addM m (-F) r j n x.1) i j=((x.1 i j+ -F*x.1 i r)%(m:Int)+ -H*x.1 i (r+1))%(m:Int):=fun i hi hne=>by
  rw[iD oM hi hjn,if_neg hne,if_pos rfl,e1 i hi hne,e2 i (r+1) hi oM hne oM]
 have key:∀i,i<n→i≠j→(m:Int)∣x.1 i j+ -F*x.1 i r+ -H*x.1 i (r+1)→addM m (-H) (r+1) j n (addM m (-F) r j n x.1) i j=0:=fun i hi hne hd=>by
  rw[e3 i hi hne];have h:Mo (m:Int) ((x.1 i j+ -F*x.1 i r)%(m:Int)+ -H*x.1 i (r+1)) 0:=((Mo.mod _ _).add (Mo.refl _ _)).trans (by obtain⟨z,hz⟩:=hd;exact⟨z,oM⟩)
  have:=h.emod;rwa[Int.zero_emod] at this
 refine⟨key r oM oM ⟨-(w*X)-l1*a-l2*b,?_⟩,key (r+1) hr oM ⟨-(w*Y)-l1*b-l2*c,?_⟩⟩
 ·rw[hX,ha,hb,hm]
  have hF:F=(c*X-b*Y)*u+(mq:Int)*l1:=oM;have hH:H=(a*Y-b*X)*u+(mq:Int)*l2:=oM;rw[hF,hH];grind
 ·rw[hY,hs1,hb,hc,hm]
  have hF:F=(c*X-b*Y)*u+(mq:Int)*l1:=oM;have hH:H=(a*Y-b*X)*u+(mq:Int)*l2:=oM;rw[hF,hH];grind
theorem fZ3{m q mq n r:Nat}{d D a b c u w:Int}(hq:1≤q)(hmq:m=q*mq)(hm:1≤m)(hr:r+1<n)(hu:u*(a*c-b*b)=1+w*(mq:Int)):∀{f j:Nat} {x:MM},j+f=n→r+1<j→RJ q m n r d D x.1→x.1 r r=(q:Int)*a→x.1 r (r+1)=(q:Int)*b→x.1 (r+1) (r+1)=(q:Int)*c→(∀y,r+1<y→y<j→x.1 r y=0∧x.1 (r+1) y=0)→
  RJ q m n r d D (twL m mq n r q a b c u f j x).1∧((twL m mq n r q a b c u f j x).1 r r=(q:Int)*a∧(twL m mq n r q a b c u f j x).1 r (r+1)=(q:Int)*b∧(twL m mq n r q a b c u f j x).1 (r+1) (r+1)=(q:Int)*c)∧∀y,r+1<y→y<n→(twL m mq n r q a b c u f j x).1 r y=0∧(twL m mq n r q a b c u f j x).1 (r+1) y=0
 |0,j,x,hj,hrj,h,ha,hb,hc,hz=>⟨h,⟨ha,hb,hc⟩,fun y h1 h2=>hz y h1 oM⟩
 |f+1,j,x,hj,hrj,h,ha,hb,hc,hz=>by
  have hjn:j<n:=oM;have hqm:q∣m:=⟨mq,hmq⟩;have hS:(twS m mq n r j q a b c u x).1=addM m (-twF mq u a b (x.1 (r+1) j/(q:Int)) (x.1 r j/(q:Int))) (r+1) j n (addM m (-twF mq u c b (x.1 r j/(q:Int)) (x.1 (r+1) j/(q:Int))) r j n x.1):=rfl;obtain⟨z1,z2⟩:=kZR (x:=x) (j:=j) hq hmq hr hrj hjn h.sy ha hb hc hu (h.dv _ _ (Nat.le_refl r) oM oM hjn) (h.dv _ _ oM hr oM hjn);have g:RJ q m n r d D (twS m mq n r j q a b c u x).1:=by
   rw[hS];exact(h.addM hm hqm oM hjn oM (Nat.le_refl r) oM).addM hm hqm hr hjn oM oM oM
  have er:∀i y,i<n→y<n→i≠j→y≠j→(twS m mq n r j q a b c u x).1 i y=x.1 i y:=fun i y hi hy h1 h2=>by
   rw[hS,iD hr hi hy,if_neg h1,if_neg h2,iD oM hi hy,if_neg h1,if_neg h2]
  rw[twL];exact fZ3 hq hmq hm hr hu (f:=f) (j:=j+1) (x:=twS m mq n r j q a b c u x) oM oM g (by rw[er r r oM oM oM oM];exact ha) (by rw[er r (r+1) oM hr oM oM];exact hb) (by rw[er (r+1) (r+1) hr hr oM oM];exact hc) (fun y h1 h2=>by
   by_cases e:y=j
   ·subst e;exact⟨z1,z2⟩
   ·rw[er r y oM oM oM e,er (r+1) y hr oM oM e];exact hz y h1 oM)
theorem oZn{r a b:Nat}{G:Nat→Nat→Int}(hra:r≤a)(hab:a<b):twM (r+1) b (twM r a G) r r=G a a∧twM (r+1) b (twM r a G) r (r+1)=G a b∧twM (r+1) b (twM r a G) (r+1) (r+1)=G b b:=by
 have e1:tw (r+1) b r=r:=by unfold tw;rw[if_neg oM,if_neg oM]
 have e2:tw r a r=a:=by unfold tw;rw[if_pos rfl]
 have e3:tw (r+1) b (r+1)=b:=by unfold tw;rw[if_pos rfl]
 have e4:tw r a b=b:=by unfold tw;rw[if_neg oM,if_neg oM]
 unfold twM;rw[e1,e2,e3,e4];exact⟨rfl,rfl,rfl⟩
theorem pr2:Pr 2:=((cZd 2).1 (by decide+kernel)).1
structure BkV(p k:Nat)(y:Bk):Prop where
 e:y.e<k
 s:(y.t=false∧0<y.a∧¬(p:Int)∣y.a∧y.b=0∧y.c=0)∨(y.t=true∧p=2∧(2:Int)∣y.a∧¬(2:Int)∣y.b∧(2:Int)∣y.c)
def bV(p:Nat)(y:Bk):Int:=if y.t then((p^(2*y.e):Nat):Int)*(y.a*y.c-y.b*y.b) else((p^y.e:Nat):Int)*y.a
def bP(p:Nat)(B:Nat→Bk):Nat→Int
 |0=>1
 |i+1=>bP p B i*bV p (B i)
theorem eZg{p:Nat}{B B':Nat→Bk}:∀{n:Nat},(∀i,i<n→B i=B' i)→bP p B n=bP p B' n
 |0,_=>rfl
 |n+1,h=>by rw[bP,bP,eZg fun i hi=>h i oM,h n oM]
theorem aZv{B B':Nat→Bk}:∀{n:Nat},(∀i,i<n→B i=B' i)→ssz B n=ssz B' n
 |0,_=>rfl
 |n+1,h=>by rw[ssz,ssz,aZv fun i hi=>h i oM,h n oM]
theorem eZf(B:Nat→Bk)(i:Nat)(y:Bk):bU B i y i=y:=if_pos rfl
theorem bZj(B:Nat→Bk){i j:Nat}(y:Bk)(h:j<i):bU B i y j=B j:=if_neg oM
theorem kZQ{k m n r e0:Nat}{d D:Int}{x:MM}(hm:m=2^k)(h:RJ (2^e0) m n r d D x.1)(hr:r<n)(hd:¬(m:Int)∣d)(hne:(aP 2 k n x.1 r).1≠(aP 2 k n x.1 r).2):
  r+1<n∧e0≤(gZR 2 k r (twX 2 k n r x).1).e∧BkV 2 k (gZR 2 k r (twX 2 k n r x).1)∧RJ (2^(gZR 2 k r (twX 2 k n r x).1).e) m n (r+2) d (D*bV 2 (gZR 2 k r (twX 2 k n r x).1)) (gZQ 2 k m n r (twX 2 k n r x)).1:=by
 obtain⟨h1,h2⟩:=yY oM hm h hr hd;obtain⟨⟨ha,hb⟩,_,_,s3⟩:=lC (p:=2) (k:=k) (A:=x.1) hr;obtain⟨han,hbn⟩:=iW (p:=2) (k:=k) (A:=x.1) hr;have hup:=aZP (p:=2) (k:=k) (n:=n) (r:=r) (A:=x.1);have s3:=s3 hne;unfold gZQ;have hX:(twX 2 k n r x).1=twM (r+1) (aP 2 k n x.1 r).2 (twM r (aP 2 k n x.1 r).1 x.1):=rfl;generalize(aP 2 k n x.1 r).1=a at*;generalize(aP 2 k n x.1 r).2=b at*;have hr1:r+1<n:=oM;obtain⟨t1,t2,t3⟩:=oZn (r:=r) (a:=a) (b:=b) (G:=x.1) ha oM;have R:=((h.weak h1).twM hr (Nat.le_refl r) han ha).twM hr1 oM hbn hb;rw[←hX] at t1 t2 t3 R;generalize twX 2 k n r x=z at*;obtain⟨h3,u,hu1,hu2,hu3⟩:=fZz (p:=2) oM hm (h.mb a b han hbn).1 (h.mb a b han hbn).2 h2;have hee:=e_up oM (h.dv a b ha han hb hbn) hu1 hu3;obtain⟨s,hs⟩:=xD (p:=2) oM (h.mb a a han han).1 (show vlZ 2 k (x.1 a b)+1≤_ from s3 a ha han)
 obtain⟨t,ht⟩:=xD (p:=2) oM (h.mb b b hbn hbn).1 (show vlZ 2 k (x.1 a b)+1≤_ from s3 b hb hbn)
 have hE:vlZ 2 k (z.1 r (r+1))=vlZ 2 k (x.1 a b):=by rw[t2]
 unfold gZR tvA tvQ;rw[hE,t1,t2,t3];clear hE h1 h2 s3 hX;generalize vlZ 2 k (x.1 a b)=e at*;rw[←t1] at hs;rw[←t2] at hu1;rw[←t3] at ht;obtain⟨y,rfl⟩:∃y,k=e+y:=⟨k-e,oM⟩;have hq:1≤2^e:=Nat.pow_pos oM;have hq0:((2^e:Nat):Int)≠0:=oM;have hmq:m=2^e*2^y:=by rw[hm,Nat.pow_add]
 have hm1:1≤m:=by rw[hm];exact Nat.pow_pos oM
 have e1:m/2^e=2^y:=by rw[hmq];exact Nat.mul_div_cancel_left _ hq
 have f1:z.1 r r=((2^e:Nat):Int)*(2*s):=by rw[hs,Nat.pow_succ,Int.natCast_mul];grind
 have f3:z.1 (r+1) (r+1)=((2^e:Nat):Int)*(2*t):=by rw[ht,Nat.pow_succ,Int.natCast_mul];grind
 have d1:x.1 a a/((2^e:Nat):Int)=2*s:=by rw[←t1,f1];exact Int.mul_ediv_cancel_left _ hq0
 have d2:x.1 a b/((2^e:Nat):Int)=u:=by rw[←t2,hu1];exact Int.mul_ediv_cancel_left _ hq0
 have d3:x.1 b b/((2^e:Nat):Int)=2*t:=by rw[←t3,f3];exact Int.mul_ediv_cancel_left _ hq0
 rw[d1,d2,d3,e1];have hodd:¬(2:Int)∣2*s*(2*t)-u*u:=fun hdv=>by
  have h5:((2:Nat):Int)∣u*u:=by
   obtain⟨c,hc⟩:=hdv;exact⟨2*s*t-c,by grind⟩
  rcases eZQ pr2 h5 with h6|h6
  ·exact hu3 h6
  ·exact hu3 h6
 obtain⟨w,hw⟩:∃w:Int,tvU (2^y) (2*s) u (2*t)*(2*s*(2*t)-u*u)=1+w*((2^y:Nat):Int):=by
  have hz0:0≤(2*s*(2*t)%((2^y:Nat):Int)-u*u%((2^y:Nat):Int))%((2^y:Nat):Int):=Int.emod_nonneg _ (by have:=Nat.pow_pos (n:=y) (show 0<2 by omega);omega)
  obtain⟨l,hl⟩:Mo ((2^y:Nat):Int) ((2*s*(2*t)%((2^y:Nat):Int)-u*u%((2^y:Nat):Int))%((2^y:Nat):Int)) (2*s*(2*t)-u*u):=(Mo.mod _ _).trans (by
   have:=(Mo.mod ((2^y:Nat):Int) (2*s*(2*t))).add ((Mo.refl _ (-1)).mul (Mo.mod ((2^y:Nat):Int) (u*u)));have e1:2*s*(2*t)%((2^y:Nat):Int)-u*u%((2^y:Nat):Int)=2*s*(2*t)%((2^y:Nat):Int)+ -1*(u*u%((2^y:Nat):Int)):=oM;have e2:2*s*(2*t)-u*u=2*s*(2*t)+ -1*(u*u):=oM;rw[e1,e2];exact this)
  unfold tvU;generalize(2*s*(2*t)%((2^y:Nat):Int)-u*u%((2^y:Nat):Int))%((2^y:Nat):Int)=zz at*;obtain⟨zt,rfl⟩:=Int.eq_ofNat_of_zero_le hz0;rw[Int.toNat_natCast];obtain⟨y',rfl⟩:∃y',y=y'+1:=⟨y-1,oM⟩;have hg:¬2∣zt:=fun hdv=>hodd (by
   obtain⟨c,hc⟩:=hdv;refine⟨(c:Int)-((2^y':Nat):Int)*l,?_⟩;rw[Nat.pow_succ,Int.natCast_mul] at hl;have:(zt:Int)=2*(c:Int):=oM;grind)
  obtain⟨w,hw⟩:=dZf (bZF pr2 hg (y'+1));refine⟨w-rcp zt (2^(y'+1))*l,?_⟩;have:(zt:Int)=2*s*(2*t)-u*u+((2^(y'+1):Nat):Int)*l:=oM;rw[this] at hw;grind
 obtain⟨R2,⟨a1,a2,a3⟩,a4⟩:=fZ3 (d:=d) (D:=D) hq hmq hm1 hr1 hw (f:=n-(r+2)) (j:=r+2) (x:=z) oM oM R f1 hu1 f3 (fun y h1 h2=>oM);have N:=R2.next2 hr1 (fun y h1 h2=>(a4 y h1 h2).1) (fun y h1 h2=>(a4 y h1 h2).2);rw[a1,a2,a3] at N;refine⟨hr1,hee,⟨h3,.inr ⟨rfl,rfl,⟨s,rfl⟩,hu3,⟨t,rfl⟩⟩⟩,?_⟩;unfold bV;dsimp only;rw[if_pos rfl];have e5:((2^e:Nat):Int)*(2*s)*(((2^e:Nat):Int)*(2*t))-((2^e:Nat):Int)*u*(((2^e:Nat):Int)*u)=((2^(2*e):Nat):Int)*(2*s*(2*t)-u*u):=by
  rw[show 2*e=e+e by omega,Nat.pow_add,Int.natCast_mul]
  grind
 rw[e5] at N;exact N
structure GooB(p k m n:Nat)(d:Int)(s:S2):Prop where
 rn:s.r≤n
 ri:RJ (p^(if s.n=0 then 0 else(s.B (s.n-1)).e)) m n s.r d (bP p s.B s.n) s.x.1
 ok:∀i,i<s.n→BkV p k (s.B i)
 up:∀i,i+1<s.n→(s.B i).e≤(s.B (i+1)).e
 sz:ssz s.B s.n=s.r
theorem GooB.push{p k m n:Nat}{d:Int}{s:S2}(h:GooB p k m n d s){r':Nat}{y:Bk}{x':MM}(hr:r'≤n)(he:(if s.n=0 then 0 else(s.B (s.n-1)).e)≤y.e)(hv:BkV p k y)(hb:s.r+bsz y=r')(hR:RJ (p^y.e) m n r' d (bP p s.B s.n*bV p y) x'.1):GooB p k m n d ⟨r',s.n+1,bU s.B s.n y,x'⟩:=by
 refine⟨hr,?_,fun i hi=>?_,fun i hi=>?_,?_⟩
 ·dsimp only
  rw[if_neg oM,Nat.add_sub_cancel,eZf,bP,eZf,eZg (B':=s.B) fun i hi=>bZj _ _ hi];exact hR
 ·dsimp only at hi ⊢
  by_cases e:i=s.n
  ·rw[e,eZf];exact hv
  ·rw[bZj _ _ oM];exact h.ok i oM
 ·dsimp only at hi ⊢
  by_cases e:i+1=s.n
  ·rw[bZj _ _ oM,e,eZf]
   rw[if_neg oM] at he;rw[show i=s.n-1 by omega]
   exact he
  ·rw[bZj _ _ oM,bZj _ _ oM];exact h.up i oM
 ·dsimp only
  rw[ssz,eZf,aZv (B':=s.B) fun i hi=>bZj _ _ hi,h.sz,hb]
def Pk(p:Nat):Prop:=OP p∨p=2
theorem Pk.pr{p:Nat}(h:Pk p):Pr p:=by
 rcases h with h|h
 ·exact h.1
 ·rw[h];exact pr2
theorem Pk.two{p:Nat}(h:Pk p):2≤p:=by
 rcases h with h|h
 ·have:=h.half.2.1;omega
 ·omega
theorem GooB.step{p k m n:Nat}{d:Int}{s:S2}(hp:Pk p)(hm:m=p^k)(hd:¬(m:Int)∣d)(h:GooB p k m n d s)(hr:s.r<n):GooB p k m n d (dgB p k m n s):=by
 have hp2:=hp.two;unfold dgB
 by_cases c:(aP p k n s.x.1 s.r).1≠(aP p k n s.x.1 s.r).2∧p=2
 ·rw[if_pos c]
  obtain⟨c1,rfl⟩:=c;obtain⟨b1,b2,b3,b4⟩:=kZQ hm h.ri hr hd c1;exact h.push oM b2 b3 rfl b4
 ·rw[if_neg c]
  have P:Piv p k m n s.r (if s.n=0 then 0 else(s.B (s.n-1)).e) d (bP p s.B s.n) (dcA p k m n s.r s.x).1:=by
   rcases hp with hO|h2
   ·exact mZw hO hm h.ri hr hd
   ·have hab:(aP p k n s.x.1 s.r).1=(aP p k n s.x.1 s.r).2:=by
     by_cases e:(aP p k n s.x.1 s.r).1=(aP p k n s.x.1 s.r).2
     ·exact e
     ·exact absurd ⟨e,h2⟩ c
    have e1:(dcA p k m n s.r s.x).1=twM s.r (aP p k n s.x.1 s.r).1 s.x.1:=by
     unfold dcA uR;rw[if_pos hab]
    rw[e1];exact dZk hp2 hm h.ri hr hd hab
  obtain⟨b1,b2,b3⟩:=lZB hp.pr hp2 hm hr P;exact h.push oM P.e0 ⟨P.ek,.inl ⟨rfl,b2,b3,rfl,rfl⟩⟩ rfl b1
theorem dZB{p k m n:Nat}{d:Int}(hp:Pk p)(hm:m=p^k)(hd:¬(m:Int)∣d):∀{f:Nat} {s:S2},n≤s.r+f→GooB p k m n d s→GooB p k m n d (dcG p k m n f s)∧(dcG p k m n f s).r=n
 |0,s,hf,h=>⟨h,Nat.le_antisymm h.rn (show n≤s.r by omega)⟩
 |f+1,s,hf,h=>by
  rw[dcG]
  by_cases c:s.r<n
  ·rw[if_pos c]
   have h1:s.r+1≤(dgB p k m n s).r:=by
    unfold dgB;split
    ·show s.r+1≤s.r+2;omega
    ·exact Nat.le_refl _
   exact dZB hp hm hd oM (h.step hp hm hd c)
  ·rw[if_neg c]
   exact⟨h,Nat.le_antisymm h.rn oM⟩
def wsm(B:Nat→Bk):Nat→Nat
 |0=>0
 |i+1=>wsm B i+bsz (B i)*(B i).e
theorem gZD{p k:Nat}(hp:Pk p){B:Nat→Bk}:∀{n:Nat},(∀i,i<n→BkV p k (B i))→∃a:Int,bP p B n=((p^wsm B n:Nat):Int)*a∧¬(p:Int)∣a
 |0,_=>⟨1,rfl,fun h=>by have:=Int.le_of_dvd oM h;have:=hp.two;omega⟩
 |n+1,h=>by
  obtain⟨a,h1,h2⟩:=gZD hp (B:=B) (n:=n) fun i hi=>h i oM;have hv:=(h n oM).s;have mul:∀x:Int,¬(p:Int)∣x→¬(p:Int)∣a*x:=fun x hx hd=>by
   rcases eZQ hp.pr hd with g|g
   ·exact h2 g
   ·exact hx g
  rw[bP,wsm,h1];unfold bV bsz;rcases hv with⟨ht,_,hnd,_,_⟩|⟨ht,hp2,hxa,hxb,hxc⟩
  ·refine⟨a*(B n).a,?_,mul _ hnd⟩
   rw[ht,if_neg aD,if_neg aD,Nat.one_mul,Nat.pow_add,Int.natCast_mul];grind
  ·refine⟨a*((B n).a*(B n).c-(B n).b*(B n).b),?_,mul _ fun hd=>?_⟩
   ·rw[ht,if_pos rfl,if_pos rfl,Nat.pow_add,Int.natCast_mul]
    grind
   ·subst hp2
    have h5:((2:Nat):Int)∣(B n).b*(B n).b:=by
     obtain⟨c,hc⟩:=hd;obtain⟨x,hx⟩:=hxa;exact⟨x*(B n).c-c,by rw[hx] at hc;grind⟩
    rcases eZQ pr2 h5 with g|g
    ·exact hxb g
    ·exact hxb g
structure Blks(p n v:Nat)(B:Nat→Bk)(N:Nat):Prop where
 ok:∀i,i<N→BkV p (v+3) (B i)
 up:∀i,i+1<N→(B i).e≤(B (i+1)).e
 sz:ssz B N=n
 sm:wsm B N=v
theorem blks{p k m n v:Nat}{d b:Int}{A:Nat→Nat→Int}(hp:Pk p)(hm:m=p^k)(hk:k≤v+3)(hv:v<k)(hd:d=((p^v:Nat):Int)*b)(hb:¬(p:Int)∣b)(hA:MB n m A)(hs:Sy n A)(hdt:Mo (m:Int) (det n A) d):Blks p n v (dcG p k m n n (dc0 A)).B (dcG p k m n n (dc0 A)).n:=by
 have hnd:¬(m:Int)∣d:=fun h=>hb (by
  obtain⟨c,hc⟩:=h;obtain⟨y,rfl⟩:∃y,k=v+1+y:=⟨k-v-1,oM⟩;have hq:((p^v:Nat):Int)≠0:=by have:=Nat.pow_pos (n:=v) (show 0<p by have:=hp.two;omega);omega
  refine⟨((p^y:Nat):Int)*c,Int.eq_of_mul_eq_mul_left hq ?_⟩;rw[←hd,hc,hm,Nat.pow_add,Nat.pow_succ,Int.natCast_mul,Int.natCast_mul];grind)
 have h0:GooB p k m n d (dc0 A):=⟨Nat.zero_le _,⟨hA,hs,by
  show Mo (m:Int) (1*det (n-0) (shM 0 A)) d
  rw[Int.one_mul,Nat.sub_zero,cG (N:=A) fun r c _ _=>by show A (0+r) (0+c)=_;rw[Nat.zero_add,Nat.zero_add]]
  exact hdt,fun i x _ _ _ _=>by show((p^0:Nat):Int)∣_;rw[Nat.pow_zero];exact Int.one_dvd _⟩,fun i hi=>absurd hi (by show ¬i<0;omega),fun i hi=>absurd hi (by show ¬i+1<0;omega),rfl⟩
 obtain⟨G,hr⟩:=dZB hp hm hnd (f:=n) (s:=dc0 A) (Nat.le_add_left _ _) h0;obtain⟨a,h1,h2⟩:=gZD hp G.ok;have h3:=G.ri.dt;rw[hr,Nat.sub_self,h1] at h3;have h3:Mo (m:Int) (((p^wsm (dcG p k m n n (dc0 A)).B (dcG p k m n n (dc0 A)).n:Nat):Int)*a*1) d:=h3;refine⟨fun i hi=>⟨by have:=(G.ok i hi).e;omega,(G.ok i hi).s⟩,G.up,by rw[G.sz,hr],?_⟩
 rw[Int.mul_one,hd] at h3;generalize wsm (dcG p k m n n (dc0 A)).B (dcG p k m n n (dc0 A)).n=E at*;rw[hm] at h3;exact fZk hp.two hv h2 hb h3
end
section
open Go.RowKit Limb
instance mZ4:CSlice Tryz.prog 193 3:=⟨Tryz.underlying193⟩
instance nZW:CElem Tryz.prog 193 3 1:=⟨Tryz.underlying193,by kernel_rfl⟩
instance pZ1:COne Tryz.prog 193:=⟨⟨_,Tryz.underlying193,rfl,by kernel_rfl⟩⟩
instance pZw:CRowZ Tryz.prog 3 1 [.int .i64 0] 8:=⟨by kernel_rfl,rfl,rfl⟩
instance mZ3:CSlice Tryz.prog 191 193:=⟨Tryz.underlying191⟩
instance nZV:CElem Tryz.prog 191 193 1:=⟨Tryz.underlying191,by kernel_rfl⟩
instance nZL:CRowZ Tryz.prog 193 1 [.slice none 0 0] 24:=⟨by kernel_rfl,rfl,rfl⟩
instance hZ9:CField Tryz.prog 214 0 0:=⟨⟨_,_,Tryz.underlying214,rfl,rfl,by kernel_rfl⟩⟩
instance hZ8:CField Tryz.prog 214 1 1:=⟨⟨_,_,Tryz.underlying214,rfl,rfl,by kernel_rfl⟩⟩
theorem aZe:gR Tryz.prog 214 [.nilFunc,.nilFunc]:=⟨by kernel_rfl,by simp[Value.oneCell']⟩
instance hZ6:CStruct Tryz.prog 214 [(0,1),(1,1)] [.nilFunc,.nilFunc]:=⟨⟨aZe,_,Tryz.underlying214,fun _=>by kernel_rfl⟩⟩
instance qZp:COne Tryz.prog 211:=⟨⟨_,Tryz.underlying211,rfl,by kernel_rfl⟩⟩
def ixP(l:List Nat):List Pd:=l.map fun(i:Nat)=>i6 i
def gP(l:List Nat):Pd:=slc 1 (ixP l) l.length
def iA(G:List (List Nat)):Pd:=slc 1 (G.map gP) G.length
theorem pZ(l:List Nat):(ixP l).length=l.length*1:=by unfold ixP;simp
def bO(b j:Nat→Bool):Nat→List (List Nat)×List Nat
 |0=>([],[])
 |i+1=>if b i=false then bO b j i else if 0<i∧b (i-1)=true∧j i=true then((bO b j i).1,(bO b j i).2++[i]) else((if(bO b j i).2=[] then(bO b j i).1 else(bO b j i).1++[(bO b j i).2]),[i])
def dR(x:List (List Nat)×List Nat):List (List Nat):=if x.2=[] then x.1 else x.1++[x.2]
theorem gZo{b j:Nat→Bool}{i:Nat}(h:b i=true):(bO b j (i+1)).2≠[]:=by
 rw[bO,if_neg (by rw[h];decide)]
 split
 ·simp
 ·simp
theorem lY{b j:Nat→Bool}:∀{i:Nat},(bO b j i).2=[]→(bO b j i).1=[]
 |0,_=>rfl
 |i+1,h=>by
  rw[bO] at h ⊢;split
  ·rename_i hb
   rw[if_pos hb] at h;exact lY h
  ·rename_i hb
   rw[if_neg hb] at h;split at h
   ·simp at h
   ·simp at h
def gcs(I:List (List Nat))(l:List Nat)(blk cap:Nat):List Pd:=I.map gP++(match l with|[]=>[]|_::_=>[ex (gvl blk l.length cap)])
theorem gZq(I:List (List Nat))(l:List Nat)(blk cap:Nat):(gcs I l blk cap).length=(dR (I,l)).length*1:=by
 unfold gcs dR;cases l with
 |nil=>simp
 |cons a t=>simp
theorem kU(b j:Nat→Bool):∀i,(dR (bO b j i)).length≤i∧(bO b j i).2.length≤i
 |0=>by simp[bO,dR]
 |i+1=>by
  obtain⟨h1,h2⟩:=kU b j i;rw[bO];split
  ·omega
  ·split
   ·refine⟨?_,by simp;omega⟩
    unfold dR at h1 ⊢;rw[if_neg (by simp)]
    split at h1
    ·simp;omega
    ·simp at h1 ⊢;omega
   ·refine⟨?_,by simp⟩
    show(dR (dR (bO b j i),[i])).length≤_
    generalize dR (bO b j i)=A at h1;unfold dR;rw[if_neg (by simp)]
    simp;omega
instance kb182:CBody PZ 182:=cB Tryz.func182
theorem cZM(En:Ev)(n:Nat)(hn:n≤20)(fb fj:FuncId)[CBody Tryz.prog fb][CBody Tryz.prog fj](cb cj:List (List Pd))(b j:Nat→Bool)
  (hb:∀i,i<n→Fn PZ En fb ([i6 i]++cb.map cpR) (ex (.bool (b i))))
  (hj:∀i,i<n→0<i→Fn PZ En fj ([i6 i]++cj.map cpR) (ex (.bool (j i)))):
  Fn PZ En 182 [i6 n,cD [cl fb cb,cl fj cj]] (iA (dR (bO b j n))):=by
 refine aA Tryz.func182 rfl Tryz.ntmps182 rfl ?_;intro w0 h0;refine vS<|vB jj<|vZ jj<|vS<|vZ jj<|js<|vS<|vV jj jj<|jn<|jb ?_;refine WpD.sub (τ:=⟨[(3,.ptr 3 0),(5,.app 505 1 0),(8,.one (i6 n)),(9,.one (i6 ((0:Nat):Int)))],[(3,[cl fb cb,cl fj cj]),(505,[]),(755,[]),(543,[]),(793,[])]⟩) ?_ ?_
 ·exact Sub.mk sJ sJ
 refine WpD.pin (t:=0) (b:=793) rfl oN fun xx0=>?_;refine WpD.pin (t:=1) (b:=543) rfl oN fun blk0=>?_;refine WpD.loop (α:={q:Nat×Nat×Nat×Nat//q.1≤n∧(0<(bO b j q.1).2.length→(bO b j q.1).2.length≤q.2.2.1∧q.2.2.1≤maxLen∧q.2.2.2=q.2.2.1*1)}) (fun q=>⟨[(0,.pin 793 q.1.2.2.2),(1,.pin 543 q.1.2.1),(3,.ptr 3 0),(5,.app 505 1 (dR (bO b j q.1.1)).length),(8,.one (i6 n)),(9,.one (i6 q.1.1))],[(3,[cl fb cb,cl fj cj]),(505,gcs (bO b j q.1.1).1 (bO b j q.1.1).2 q.1.2.1 q.1.2.2.1),(755,[]),(543,ixP (bO b j q.1.1).2),(793,[])]⟩) (fun q=>n-q.1.1) ⟨(0,blk0,0,xx0),Nat.zero_le _,fun h=>absurd h (Nat.lt_irrefl 0)⟩ ?_ ?_
 ·dsimp only
  exact Sub.mk sJ sJ
 rintro⟨⟨i,blk,cap,xx⟩,hi,hcap⟩;dsimp only at hi hcap ⊢
 by_cases hlt:i<n
 ·have w1:=wS i oM
  have B1:=hb i hlt;cases hbi:b i with
  |false=>
   have e1:bO b j (i+1)=bO b j i:=by rw[bO,if_pos hbi]
   rw[hbi] at B1;refine vS<|vLt jj<|vW jj<|vS<|jm jj<|vZ jj<|js<|vS<|vX jj<|jm jj<|jS (oV jj B1 tA)<|jS (bNo jj)<|jn<|jt jj<|je<|jr<|vAd jj w1<|jm jj<|jn ?_;refine⟨⟨(i+1,blk,cap,xx),oD,by dsimp only;rw[e1];exact hcap⟩,?_,oD⟩
   dsimp only;rw[e1];exact Sub.mk sJ sJ
  |true=>
   rw[hbi] at B1;obtain⟨g1,g2⟩:=kU b j i;refine vS<|vLt jj<|vW jj<|vS<|jm jj<|vZ jj<|js<|vS<|vX jj<|jm jj<|jS (oV jj B1 tA)<|jS (bNo jj)<|jn<|jf jj<|jp ?_;refine WpD.cut (α:={v:Bool//v=(decide (0<i)&&b (i-1)&&j i)}) (fun v=>⟨[(0,.pin 793 xx),(1,.pin 543 blk),(3,.ptr 3 0),(5,.app 505 1 (dR (bO b j i)).length),(6,.one (i6 i)),(8,.one (i6 n)),(9,.one (i6 i)),(31,.one (ex (.bool v.1)))],[(3,[cl fb cb,cl fj cj]),(505,gcs (bO b j i).1 (bO b j i).2 blk cap),(755,[]),(543,ixP (bO b j i).2),(793,[])]⟩) ?_ ?_
   ·by_cases hi0:i=0
    ·refine kR ?_
     refine jm jj<|jS (bGf jj jj oM)<|jm jj ?_;refine kG ?_;refine kG ?_;refine kG ?_;first|refine jg (aY jj jj (fun w=>eR w _ _ _ _ _ _)) ?_|refine jk ?_
     first|refine jg (jG jj missing_contract tA) ?_|refine jk ?_
     refine kH ?_;refine jm jj ?_;refine kG ?_;refine kG ?_;refine kG ?_;first|refine jg (jG jj missing_contract tA) ?_|refine jk ?_
     refine kH ?_;refine jn ?_;refine⟨⟨false,by rw[decide_eq_false (show ¬0<i by omega)];rfl⟩,?_⟩
     exact Sub.mk sJ sJ
    ·have w2:=wM i oM
     have B2:=hb (i-1) oM;cases hb2:b (i-1) with
     |false=>
      rw[hb2] at B2;refine kR ?_;refine jm jj<|jS (bGt jj jj oM)<|jm jj ?_;refine kG ?_;refine kG ?_;refine kG ?_;first|refine jg (bSu jj jj w2) ?_|refine jk ?_
      first|refine jg (oV jj B2 tA) ?_|refine jk ?_
      refine kH ?_;refine jm jj ?_;refine kG ?_;refine kG ?_;refine kG ?_;first|refine jg (jG jj missing_contract tA) ?_|refine jk ?_
      refine kH ?_;refine jn ?_;refine⟨⟨false,by simp⟩,?_⟩
      exact Sub.mk sJ sJ
     |true=>
      rw[hb2] at B2;have J2:=hj i hlt oM;refine kR ?_;refine jm jj<|jS (bGt jj jj oM)<|jm jj ?_;refine kG ?_;refine kG ?_;refine kG ?_;first|refine jg (bSu jj jj w2) ?_|refine jk ?_
      first|refine jg (oV jj B2 tA) ?_|refine jk ?_
      refine kH ?_;refine jm jj ?_;refine kG ?_;refine kG ?_;refine kG ?_;first|refine jg (oV jj J2 tA) ?_|refine jk ?_
      refine kH ?_;refine jn ?_;refine⟨⟨j i,by rw[decide_eq_true (show 0<i by omega)];simp⟩,?_⟩
      exact Sub.mk sJ sJ
   rintro⟨v,hv⟩;dsimp only;cases v with
   |true=>
    have hv:0<i∧b (i-1)=true∧j i=true:=by simp at hv;exact⟨hv.1.1,hv.1.2,hv.2⟩
    have hne:(bO b j i).2≠[]:=by have:=gZo (b:=b) (j:=j) hv.2.1;rwa[show i-1+1=i by omega] at this
    have e1:bO b j (i+1)=((bO b j i).1,(bO b j i).2++[i]):=by rw[bO,if_neg (by rw[hbi];decide),if_pos hv]
    generalize bO b j i=G at*;obtain⟨I,l⟩:=G;cases l with
    |nil=>exact absurd rfl hne
    |cons a t=>
    have hG:(dR (I,a::t)).length=I.length+1:=by unfold dR;simp
    rw[hG] at g1 ⊢;dsimp only at g2 hcap e1 ⊢;have g2:t.length+1≤i:=g2;have w3:IntKind.i64.wrap (((I.length+1:Nat):Int)-1)=((I.length:Nat):Int):=by rw[w64 oM oM];omega
    have hget:(gcs I (a::t) blk cap)[I.length]? =some (ex (gvl blk (a::t).length cap)):=by
     unfold gcs;rw[List.getElem?_append_right (by simp)]
     simp
    have hlen:(ixP (a::t)).length=(a::t).length*1:=pZ _;have hr:ixP (a::t)++[i6 i]=ixP ((a::t)++[i]):=by unfold ixP;simp
    refine kO ?_;refine WpD.condT rfl ?_;refine kR ?_;refine jm jj<|jS (fB jj CSlice.ok)<|vSu jj w3<|vZ jj ?_;refine kO ?_;refine WpD.seqR ?_;refine WpS.S rfl rfl (eM rfl) rfl ?_;refine WpS.S rfl rfl (eM rfl) rfl ?_;refine WpS.S rfl rfl (eM rfl) rfl ?_;refine WpS.S rfl rfl (eM rfl) rfl ?_;refine WpS.S rfl rfl (fF rfl rfl oM (Nat.mul_one I.length)) rfl ?_;refine WpS.S rfl rfl (aX rfl rfl hget) rfl ?_;refine WpS.S rfl rfl (eM rfl) rfl ?_;refine WpS.S rfl rfl (bW (ps:=[(_,_)]) ⟨rfl,Part.c rfl,trivial⟩ rfl rfl rfl) rfl ?_;refine WpS.sub (Sub.toApp (t:=40) (p:=1) (q:=0) (b:=543) (k:=1) (blk:=blk) (len:=(a::t).length) (cap:=cap) (x:=xx) rfl rfl rfl hcap) ?_;refine WpS.S rfl rfl (cC 544 rfl rfl hlen rfl oM (by simp;omega) rfl rfl rfl rfl rfl hr) rfl ?_
    refine WpS.sub (τ:=⟨[(3,.ptr 3 0),(5,.app 505 1 (I.length+1)),(8,.one (i6 n)),(9,.one (i6 i)),(35,.app 505 1 (I.length+1)),(36,.one (i6 ((I.length:Nat):Int))),(43,.app 543 1 ((a::t).length+1))],[(3,[cl fb cb,cl fj cj]),(505,gcs I (a::t) blk cap),(755,[]),(543,ixP ((a::t)++[i])),(793,[])]⟩) (Sub.ren 543 544 rfl ?_ ?_ rfl) ?_
    ·repeat(first|exact trivial|refine⟨.inl ⟨pK,trivial,trivial⟩,?_⟩|refine⟨.inr ⟨_,_,rfl,.inl rfl,⟨oN,oN⟩⟩,?_⟩|refine⟨.inl ⟨⟨_,rfl,rfl⟩,oN,⟨aD,aD⟩⟩,?_⟩|refine⟨.inl ⟨⟨_,rfl,rfl⟩,⟨oN,oN⟩,⟨aD,aD,aD,aD⟩⟩,?_⟩)
    ·repeat(first|exact trivial|refine⟨.inr ⟨aD,.inr rfl⟩,?_⟩|refine⟨.inl ⟨rfl,_,rfl,PsLe.refl _⟩,?_⟩|refine⟨.inr ⟨aD,.inl ⟨aD,_,rfl,PsLe.refl _⟩⟩,?_⟩)
    refine WpS.fromApp (t:=43) (p:=1) (q:=0) rfl rfl rfl (by simp) fun blk' cap' xx' hc'=>?_
    have hset:(gcs I (a::t) blk cap).set I.length (ex (gvl blk' ((a::t).length+1) cap'))=gcs I ((a::t)++[i]) blk' cap':=by
     unfold gcs;rw[List.set_append_right _ _ (by simp)]
     simp
    refine WpS.S rfl rfl (fF rfl rfl oM (Nat.mul_one I.length)) rfl ?_;refine WpS.N rfl (bX rfl rfl rfl (by rw[gZq,hG];omega) hset) rfl ?_
    refine WpS.nil ?_;refine kR ?_;refine vAd jj w1<|jm jj<|jn ?_;refine⟨⟨(i+1,blk',cap',xx'),oD,by dsimp only;rw[e1];exact fun _=>by simpa using hc'⟩,?_,oD⟩
    dsimp only;rw[e1,show(dR (I,a::t++[i])).length=I.length+1 by unfold dR;simp]
    exact Sub.mk sJ sJ
   |false=>
    have hv:¬(0<i∧b (i-1)=true∧j i=true):=by rintro⟨h1,h2,h3⟩;rw[h2,h3,decide_eq_true h1] at hv;cases hv
    have e1:bO b j (i+1)=(dR (bO b j i),[i]):=by rw[bO,if_neg (by rw[hbi];decide),if_neg hv];rfl
    refine kO ?_;refine WpD.condF rfl ?_;refine WpD.sub (τ:=⟨[(3,.ptr 3 0),(5,.app 505 1 (dR (bO b j i)).length),(6,.one (i6 i)),(8,.one (i6 n)),(9,.one (i6 i))],[(505,(dR (bO b j i)).map gP),(3,[cl fb cb,cl fj cj]),(755,[])]⟩) ?_ ?_
    ·have hfst:=lY (b:=b) (j:=j) (i:=i)
     generalize bO b j i=G at*;obtain⟨I,l⟩:=G;cases l with
     |nil=>
      have hI:I=[]:=hfst rfl;subst hI;exact Sub.mk sJ sJ
     |cons a t=>
      have hA:dR (I,a::t)=I++[a::t]:=by unfold dR;simp
      obtain⟨q1,q2,_⟩:=hcap (by simp)
      have hm:(I++[a::t]).map gP=I.map gP++[slc 1 (ixP (a::t)) (a::t).length]:=by simp[gP]
      rw[hA,hm];refine Sub.pubLast (b:=543) (d:=505) (p:=1) (k:=1) (len:=(a::t).length) (cap:=cap) (blk:=blk) (L:=I.map gP) (sl:=[(3,.ptr 3 0),(5,.app 505 1 (I++[a::t]).length),(6,.one (i6 i)),(8,.one (i6 n)),(9,.one (i6 i))]) (bx0:=[(3,[cl fb cb,cl fj cj]),(505,I.map gP++[ex (gvl blk (a::t).length cap)]),(755,[])]) rfl rfl (pZ _) rfl rfl (by simp) q1 q2 ?_ rfl ?_|>.trans ?_
      ·exact⟨.inl pQ,.inl pQ,.inl pQ,trivial⟩
      ·repeat(first|exact trivial|refine jv rfl ?_|refine jw rfl (js0 rfl) ?_|refine jw rfl ⟨js0 rfl,js0 rfl⟩ ?_)
      ·exact Sub.mk sJ sJ
    generalize hA:dR (bO b j i)=A at*;have hlen:(A.map gP).length=A.length*1:=by simp
    refine kO ?_;refine WpD.seqR ?_;refine WpS.S rfl rfl (eM rfl) rfl ?_;refine WpS.S rfl rfl (eM rfl) rfl ?_;refine WpS.S rfl rfl (aZ0 543 (ps:=[(_,_)]) ⟨rfl,Part.c rfl,trivial⟩ rfl rfl rfl rfl rfl rfl) rfl ?_;refine WpS.fromApp (t:=47) (p:=1) (q:=0) rfl rfl rfl oM fun blk' cap' xx' hc'=>?_;refine WpS.S rfl rfl (bW (ps:=[(_,_)]) ⟨rfl,Part.c rfl,trivial⟩ rfl rfl rfl) rfl ?_;refine WpS.S rfl rfl (cC 549 rfl rfl hlen rfl oM oM rfl rfl rfl rfl rfl rfl) rfl ?_;refine WpS.S rfl rfl (tT rfl) rfl ?_;refine WpS.sub (τ:=⟨[(0,.pin 793 xx'),(1,.pin 543 blk'),(3,.ptr 3 0),(5,.app 505 1 (A.length+1)),(8,.one (i6 n)),(9,.one (i6 i))],[(3,[cl fb cb,cl fj cj]),(505,A.map gP++[ex (gvl blk' 1 cap')]),(755,[]),(543,[i6 i]),(793,[])]⟩) (Sub.ren 505 549 rfl ?_ ?_ rfl) ?_
    ·repeat(first|exact trivial|refine⟨.inl ⟨pK,trivial,trivial⟩,?_⟩|refine⟨.inr ⟨_,_,rfl,.inl rfl,⟨oN,oN⟩⟩,?_⟩|refine⟨.inl ⟨⟨_,rfl,rfl⟩,oN,⟨aD,aD⟩⟩,?_⟩|refine⟨.inl ⟨⟨_,rfl,rfl⟩,⟨oN,oN⟩,⟨aD,aD,aD,aD⟩⟩,?_⟩)
    ·repeat(first|exact trivial|refine⟨.inr ⟨aD,.inr rfl⟩,?_⟩|refine⟨.inl ⟨rfl,_,rfl,PsLe.refl _⟩,?_⟩|refine⟨.inr ⟨aD,.inl ⟨aD,_,rfl,PsLe.refl _⟩⟩,?_⟩)
    refine WpS.nil ?_;refine kR ?_;refine vAd jj w1<|jm jj<|jn ?_;refine⟨⟨(i+1,blk',cap',xx'),oD,by dsimp only;rw[e1];exact fun _=>by simpa using hc'⟩,?_,oD⟩
    dsimp only;rw[e1,show(dR (A,[i])).length=A.length+1 by unfold dR;simp]
    exact Sub.mk sJ sJ
 ·have:i=n:=oM
  subst this;have hfst:=lY (b:=b) (j:=j) (i:=i);unfold iA;refine vS<|vLf jj<|jn<|js<|jf jj<|je ?_;refine WpD.sub (τ:=⟨[(5,.one (slc 1 ((dR (bO b j i)).map gP) (dR (bO b j i)).length))],[]⟩) ?_ ?_
  ·generalize bO b j i=G at*
   obtain⟨I,l⟩:=G;cases l with
   |nil=>
    have hI:I=[]:=hfst rfl;subst hI;exact Sub.pub 505 rfl rfl ⟨.inr (.inr (.inl ⟨_,_,_,rfl,rfl,rfl,PLe.refl _⟩)),trivial⟩ trivial rfl
   |cons a t=>
    have hA:dR (I,a::t)=I++[a::t]:=by unfold dR;simp
    obtain⟨q1,q2,_⟩:=hcap (by simp)
    have hm:(I++[a::t]).map gP=I.map gP++[slc 1 (ixP (a::t)) (a::t).length]:=by simp[gP]
    have hl2:(I.map gP++[slc 1 (ixP (a::t)) (a::t).length]).length=(I++[a::t]).length*1:=by simp
    rw[hA,hm];refine(Sub.pubLast (b:=543) (d:=505) (p:=1) (k:=1) (len:=(a::t).length) (cap:=cap) (blk:=blk) (L:=I.map gP) (sl:=[(5,.app 505 1 (I++[a::t]).length)]) (bx0:=[(505,I.map gP++[ex (gvl blk (a::t).length cap)]),(755,[])]) rfl rfl (pZ _) rfl rfl (by simp) q1 q2 ⟨.inl pQ,.inl pQ,trivial⟩ rfl ?_).trans ?_
    ·repeat(first|exact trivial|refine jv rfl ?_|refine jw rfl (js0 rfl) ?_|refine jw rfl ⟨js0 rfl,js0 rfl⟩ ?_)
    ·exact Sub.pub 505 rfl rfl ⟨.inr (.inr (.inl ⟨_,_,_,rfl,rfl,hl2,PLe.refl _⟩)),trivial⟩ trivial rfl
  refine kR ?_;refine jm jj<|vZ jj<|ji ?_;exact rtT rfl jj
end
section
open Go.RowKit Limb Num
instance kb181:CBody PZ 181:=cB Tryz.func181
instance kb194:CBody PZ 194:=cB Tryz.func194
instance kb195:CBody PZ 195:=cB Tryz.func195
instance kb197:CBody PZ 197:=cB Tryz.func197
instance kb196:CBody PZ 196:=cB Tryz.func196
instance kb185:CBody PZ 185:=cB Tryz.func185
instance kb167:CBody PZ 167:=cB Tryz.func167
instance kb183:CBody PZ 183:=cB Tryz.func183
instance kb184:CBody PZ 184:=cB Tryz.func184
instance kb200:CBody PZ 200:=cB Tryz.func200
instance kb201:CBody PZ 201:=cB Tryz.func201
theorem iG{l:List Nat}{i:Nat}(h:i<l.length):((ixP l).drop (i*1)).take 1=[i6 ((l.getD i 0:Nat):Int)]:=by
 have h':i<(ixP l).length:=by unfold ixP;simpa using h
 rw[Nat.mul_one,List.drop_eq_getElem_cons h'];simp[ixP,List.getD,List.getElem?_eq_getElem h]
theorem rD{G:List (List Nat)}{i:Nat}(h:i<G.length):((G.map gP).drop (i*1)).take 1=[gP (G.getD i [])]:=by
 have h':i<(G.map gP).length:=by simpa using h
 rw[Nat.mul_one,List.drop_eq_getElem_cons h'];simp[List.getD,List.getElem?_eq_getElem h]
theorem iB{α:Type}{l:List α}{i:Nat}{d:α}(h:i<l.length):l.drop i=l.getD i d::l.drop (i+1):=by
 rw[List.drop_eq_getElem_cons h];simp[List.getD,List.getElem?_eq_getElem h]
def ixg(x:Nat):List Nat→Nat→Int
 |[],_=> -1
 |a::t,k=>if x=a then(k:Int) else ixg x t (k+1)
theorem cZa(x:Nat):∀(l:List Nat) (k:Nat),(0≤ixg x l k)↔x∈l
 |[],k=>by simp[ixg]
 |a::t,k=>by
  rw[ixg]
  by_cases h:x=a
  ·rw[if_pos h];simp[h]
  ·rw[if_neg h,cZa x t (k+1)];simp[h]
section
variable(En:Ev)
theorem oZ1(l:List Nat)(x:Nat)(hl:l.length≤20):Fn PZ En 201 [gP l,i6 x] (i6 (ixg x l 0)):=by
 unfold gP;refine aA Tryz.func201 rfl Tryz.ntmps201 rfl ?_;intro w0 h0;refine vS<|vZ jj<|js<|vS<|jm jj<|jE jj<|jm jj<|jn<|jb ?_;refine WpD.loop (α:={i:Nat//i≤l.length∧ixg x l 0=ixg x (l.drop i) i}) (fun i=>⟨[(0,.one (slc 1 (ixP l) l.length)),(1,.one (i6 x)),(7,.one (i6 l.length)),(8,.one (i6 i.1))],[]⟩) (fun i=>l.length-i.1) ⟨0,Nat.zero_le _,rfl⟩ ?_ ?_
 ·exact Sub.mk sJ sJ
 rintro⟨i,hi,he⟩;dsimp only at hi he ⊢
 by_cases hlt:i<l.length
 ·have hq:=iG hlt
  have w1:=wS i oM;rw[iB (d:=0) hlt,ixg] at he;generalize l.getD i 0=a at*
  by_cases hx:x=a
  ·rw[if_pos hx] at he
   rw[he];have hx':(x:Int)=(a:Int):=oM;refine vS<|vLt jj<|vW jj<|vS<|jm jj<|vZ jj<|vS<|vV jj jj<|jm jj<|vD jj hlt hq<|vT jj<|vEt jj<|jn<|jt jj<|vS<|jm jj<|vZ jj<|ji ?_;exact rtT rfl jj
  ·rw[if_neg hx] at he
   have hx':(x:Int)≠(a:Int):=oM;refine vS<|vLt jj<|vW jj<|vS<|jm jj<|vZ jj<|vS<|vV jj jj<|jm jj<|vD jj hlt hq<|vT jj<|vEf jj<|jn<|jf jj<|jp<|jr<|vAd jj w1<|jm jj<|jn ?_;refine⟨⟨i+1,oM,he⟩,?_,oD⟩;exact Sub.mk sJ sJ
 ·rw[List.drop_of_length_le oM,ixg] at he
  rw[he];refine vS<|vLf jj<|vU jj<|vS<|vZ jj<|ji ?_;exact rtT rfl jj
theorem gZV(l:List Nat)(x:Nat)(hl:l.length≤20):Fn PZ En 200 [gP l,i6 x] (ex (.bool (decide (x∈l)))):=by
 have C1:=oZ1 En l x hl
 by_cases h:x∈l
 ·rw[decide_eq_true h]
  have:=(cZa x l 0).2 h;refine aA Tryz.func200 rfl Tryz.ntmps200 rfl ?_;intro w0 h0;refine vS<|vZ jj<|vS<|vV jj jj<|vC C1 tB<|jS (bHt jj jj)<|vZ jj<|ji ?_;exact rtT rfl jj
 ·rw[decide_eq_false h]
  have:¬0≤ixg x l 0:=fun h'=>h ((cZa x l 0).1 h');refine aA Tryz.func200 rfl Tryz.ntmps200 rfl ?_;intro w0 h0;refine vS<|vZ jj<|vS<|vV jj jj<|vC C1 tB<|jS (bHf jj jj)<|vZ jj<|ji ?_;exact rtT rfl jj
end
structure Shp(f:Nat→Co)(n:Nat):Prop where
 n20:n≤20
 e0:∀i,i<n→0≤(f i).e
 e1:∀i,i<n→(f i).e≤60
def oI(f:Nat→Co)(i:Nat):Bool:=decide ((f i).e=(f (i-1)).e+1)
def aL(f:Nat→Co)(n:Nat):List (List Nat):=dR (bO (fun i=>(f i).o) (oI f) n)
section
variable(En:Ev)
theorem oZs(p:Int)(f:Nat→Co)(n i:Nat)(hi:i<n):Fn PZ En 194 [i6 i,cpR [i6 p,slc 5 (rows (ccs f) n) n]] (ex (.bool (f i).o)):=by
 have hq:((rows (ccs f) n).drop (i*5)).take 5=coc (f i):=bE (bC f) hi;refine aA Tryz.func194 rfl Tryz.ntmps194 rfl ?_;intro w0 h0;refine vS<|vZ jj<|vS<|jS (aI jj jj)<|vT jj<|jm jj<|vD jj hi hq<|jS (aI jj jj)<|vT jj<|vZ jj<|ji ?_;exact rtT rfl jj
theorem oZr(p:Int)(f:Nat→Co)(n i:Nat)(H:Shp f n)(hi:i<n)(h0i:0<i):Fn PZ En 195 [i6 i,cpR [i6 p,slc 5 (rows (ccs f) n) n]] (ex (.bool (oI f i))):=by
 have hn:=H.n20;have hi2:i-1<n:=oM;have hq:((rows (ccs f) n).drop (i*5)).take 5=coc (f i):=bE (bC f) hi;have hq2:((rows (ccs f) n).drop ((i-1)*5)).take 5=coc (f (i-1)):=bE (bC f) hi2;have b1:=H.e0 _ hi2;have b2:=H.e1 _ hi2;have w1:=wM i oM;have w2:IntKind.i64.wrap ((f (i-1)).e+1)=(f (i-1)).e+1:=w64 oM oM;have hh:((f i).e==(f (i-1)).e+1)=oI f i:=rfl;refine aA Tryz.func195 rfl Tryz.ntmps195 rfl ?_;intro w0 h0;refine vS<|vZ jj<|vS<|jS (aI jj jj)<|vT jj<|jm jj<|vD jj hi hq<|jS (aI jj jj)<|vT jj<|jS (aI jj jj)<|vT jj<|jm jj<|vSu jj w1<|vD jj hi2 hq2<|jS (aI jj jj)<|vT jj<|vAd jj w2<|jS (bVq jj jj hh)<|vZ jj<|ji ?_;exact rtT rfl jj
theorem bZq(p:Int)(f:Nat→Co)(n:Nat)(H:Shp f n):Fn PZ En 181 [cO p f n] (iA (aL f n)):=by
 have C1:=cZM En n H.n20 194 195 [[i6 p,slc 5 (rows (ccs f) n) n]] [[i6 p,slc 5 (rows (ccs f) n) n]] (fun i=>(f i).o) (oI f) (fun i hi=>oZs En p f n i hi) (fun i hi h0=>oZr En p f n i H hi h0);unfold cO aL;refine aA Tryz.func181 rfl Tryz.ntmps181 rfl ?_;intro w0 h0;refine vS<|vB jj<|vZ jj ?_;refine WpD.sub (τ:=⟨[(1,.one (cpR [i6 p,slc 5 (rows (ccs f) n) n]))],[]⟩) ?_ ?_
 ·exact Sub.pub 1 rfl rfl ⟨.inr (.inr (.inr ⟨_,_,rfl,rfl,PLe.refl _⟩)),trivial⟩ trivial rfl
 refine kR ?_;refine jS (aI jj jj)<|vT jj<|jE jj<|jS (nV jj)<|jS (nV jj)<|jS (aU (ps:=[(_,_),(_,_)]) ⟨jj,Part.c jj,jj,Part.c jj,trivial⟩ jj)<|vC C1 tB<|vZ jj<|ji ?_;exact rtT rfl jj
def cof:List (List Nat)→Nat→List Nat
 |[],_=>[]
 |g::G,i=>if i∈g then g else cof G i
theorem jZE:PLe (ex (.slice none 0 0)) (gP []):=fun _ _ e=>⟨none,0,e,Nat.le_refl _,Nat.zero_le _,fun _=>rfl,rfl,fun hn=>absurd rfl hn⟩
theorem tcof(p:Int)(f:Nat→Co)(n i:Nat)(H:Shp f n)(hG:∀g∈aL f n,g.length≤20)(hl:(aL f n).length≤20):Fn PZ En 197 [cO p f n,i6 i] (gP (cof (aL f n) i)):=by
 have C1:=bZq En p f n H;unfold cO at*;generalize aL f n=G at*;unfold iA at C1;refine aA Tryz.func197 rfl Tryz.ntmps197 rfl ?_;intro w0 h0;refine vS<|vB jj<|vZ jj<|js<|vS<|vL jj<|vC C1 ⟨jj,trivial⟩<|jE jj<|jm jj<|jn<|jb ?_;refine WpD.loop (α:={k:Nat//k≤G.length∧cof G i=cof (G.drop k) i}) (fun k=>⟨[(1,.one (i6 i)),(8,.one (slc 1 (G.map gP) G.length)),(9,.one (i6 G.length)),(10,.one (i6 k.1))],[]⟩) (fun k=>G.length-k.1) ⟨0,Nat.zero_le _,rfl⟩ ?_ ?_
 ·exact Sub.mk sJ sJ
 rintro⟨k,hk,he⟩;dsimp only at hk he ⊢
 by_cases hlt:k<G.length
 ·have hq:=rD hlt
  have w1:=wS k oM;have hmem:=mC [] hlt;rw[iB (d:=[]) hlt,cof] at he;have C2:=gZV En (G.getD k []) i (hG _ hmem);generalize G.getD k []=g at*
  by_cases hx:i∈g
  ·rw[if_pos hx] at he
   rw[he];rw[decide_eq_true hx] at C2;refine vS<|vLt jj<|vW jj<|vS<|vD jj hlt hq<|vT jj<|vZ jj<|vS<|vV jj jj<|vC C2 ⟨jj,jj,trivial⟩<|jn<|jt jj<|vS<|jm jj<|vZ jj<|ji ?_;exact rtT rfl jj
  ·rw[if_neg hx] at he
   rw[decide_eq_false hx] at C2;refine vS<|vLt jj<|vW jj<|vS<|vD jj hlt hq<|vT jj<|vZ jj<|vS<|vV jj jj<|vC C2 ⟨jj,jj,trivial⟩<|jn<|jf jj<|jp<|jr<|vAd jj w1<|jm jj<|jn ?_;refine⟨⟨k+1,oM,he⟩,?_,oD⟩;exact Sub.mk sJ sJ
 ·rw[List.drop_of_length_le oM,cof] at he
  rw[he];refine vS<|vLf jj<|vU jj<|vS<|vZ jj<|ji ?_;exact wD rfl (.tmp rfl) jZE
def kD(f:Nat→Co)(g:List Nat):Prop:=g.length≠2∨(f (g.getD 0 0)).d≠1∨(f (g.getD 1 0)).d≠1∨((f (g.getD 0 0)).y+(f (g.getD 1 0)).y)%4≠0
instance(f:Nat→Co)(g:List Nat):Decidable (kD f g):=by unfold kD;infer_instance
theorem tgood(p:Int)(f:Nat→Co)(n:Nat)(g:List Nat)(hg:∀i∈g,i<n)(hy:∀i,i<n→0≤(f i).y∧(f i).y≤7):Fn PZ En 196 [cO p f n,gP g] (ex (.bool (decide (kD f g)))):=by
 unfold cO gP
 by_cases h2:g.length=2
 ·obtain⟨a,b,rfl⟩:∃a b,g=[a,b]:=by
   match g,h2 with
   |[a,b],_=>exact⟨a,b,rfl⟩
  have ha:=hg a (by simp)
  have hb:=hg b (by simp)
  have hqa:((rows (ccs f) n).drop (a*5)).take 5=coc (f a):=bE (bC f) ha;have hqb:((rows (ccs f) n).drop (b*5)).take 5=coc (f b):=bE (bC f) hb;have y1:=hy a ha;have y2:=hy b hb;have w1:IntKind.i64.wrap ((f a).y+(f b).y)=(f a).y+(f b).y:=w64 oM oM;have w2:((f a).y+(f b).y).tmod 4=((f a).y+(f b).y)%4:=Int.tmod_eq_emod_of_nonneg oM;have hG:kD f [a,b]↔((f a).d≠1∨(f b).d≠1∨((f a).y+(f b).y)%4≠0):=by unfold kD;simp
  rw[show decide (kD f [a,b])=_ from decide_eq_decide.2 hG]
  by_cases d1:(f a).d=1
  ·by_cases d2:(f b).d=1
   ·by_cases d3:((f a).y+(f b).y)%4=0
    ·rw[decide_eq_false oM]
     refine aA Tryz.func196 rfl Tryz.ntmps196 rfl ?_;intro w0 h0;refine vS<|vB jj<|vZ jj<|js<|vS<|jm jj<|jE jj<|vNf jj<|jn<|jf jj<|jp<|vS<|vX jj<|jm jj<|jS (aK (i:=0) jj jj (by simp) jj)<|vT jj<|vD jj ha hqa<|vR jj<|vX jj<|jm jj<|jS (aK (i:=1) jj jj (by simp) jj)<|vT jj<|vD jj hb hqb<|vR jj<|vA jj<|vA jj<|vP jj<|vP jj<|vJ<|vX jj<|vNf jj<|jm jj<|vY jj<|uNf jj<|vQ jj<|jm jj<|vY jj<|vY jj<|jg (bAd jj jj w1)<|jg (bRe jj jj w2)<|uNf jj<|vQ jj<|vZ jj ?_
     refine ji ?_;exact rtT rfl jj
    ·rw[decide_eq_true oM]
     refine aA Tryz.func196 rfl Tryz.ntmps196 rfl ?_;intro w0 h0;refine vS<|vB jj<|vZ jj<|js<|vS<|jm jj<|jE jj<|vNf jj<|jn<|jf jj<|jp<|vS<|vX jj<|jm jj<|jS (aK (i:=0) jj jj (by simp) jj)<|vT jj<|vD jj ha hqa<|vR jj<|vX jj<|jm jj<|jS (aK (i:=1) jj jj (by simp) jj)<|vT jj<|vD jj hb hqb<|vR jj<|vA jj<|vA jj<|vP jj<|vP jj<|vJ<|vX jj<|vNf jj<|jm jj<|vY jj<|uNf jj<|vQ jj<|jm jj<|vY jj<|vY jj<|jg (bAd jj jj w1)<|jg (bRe jj jj w2)<|uNt jj<|vQ jj<|vZ jj ?_
     refine ji ?_;exact rtT rfl jj
   ·rw[decide_eq_true oM]
    refine aA Tryz.func196 rfl Tryz.ntmps196 rfl ?_;intro w0 h0;refine vS<|vB jj<|vZ jj<|js<|vS<|jm jj<|jE jj<|vNf jj<|jn<|jf jj<|jp<|vS<|vX jj<|jm jj<|jS (aK (i:=0) jj jj (by simp) jj)<|vT jj<|vD jj ha hqa<|vR jj<|vX jj<|jm jj<|jS (aK (i:=1) jj jj (by simp) jj)<|vT jj<|vD jj hb hqb<|vR jj<|vA jj<|vA jj<|vP jj<|vP jj<|vJ<|vX jj<|vNf jj<|jm jj<|vY jj<|uNt jj<|vQ jj<|jm jj<|jk<|jk<|jk<|jk<|jk<|jk<|jk<|vq jj<|vZ jj ?_
    refine ji ?_;exact rtT rfl jj
  ·rw[decide_eq_true oM]
   refine aA Tryz.func196 rfl Tryz.ntmps196 rfl ?_;intro w0 h0;refine vS<|vB jj<|vZ jj<|js<|vS<|jm jj<|jE jj<|vNf jj<|jn<|jf jj<|jp<|vS<|vX jj<|jm jj<|jS (aK (i:=0) jj jj (by simp) jj)<|vT jj<|vD jj ha hqa<|vR jj<|vX jj<|jm jj<|jS (aK (i:=1) jj jj (by simp) jj)<|vT jj<|vD jj hb hqb<|vR jj<|vA jj<|vA jj<|vP jj<|vP jj<|vJ<|vX jj<|vNt jj<|jm jj<|jk<|jk<|jk<|vq jj<|jm jj<|jk<|jk<|jk<|jk<|jk<|jk<|jk<|vq jj<|vZ jj ?_
   refine ji ?_;exact rtT rfl jj
 ·rw[decide_eq_true (show kD f g from .inl h2)]
  have h2':((g.length:Nat):Int)≠2:=oM;refine aA Tryz.func196 rfl Tryz.ntmps196 rfl ?_;intro w0 h0;refine vS<|vB jj<|vZ jj<|js<|vS<|jm jj<|jE jj<|vNt jj<|jn<|jt jj<|vS<|vZ jj<|ji ?_;exact rtT rfl jj
theorem cZh(b j:Nat→Bool):∀i,(∀g∈(bO b j i).1,∀k∈g,k<i)∧∀k∈(bO b j i).2,k<i
 |0=>by simp[bO]
 |i+1=>by
  obtain⟨h1,h2⟩:=cZh b j i;rw[bO];split
  ·exact⟨fun g hg k hk=>Nat.lt_succ_of_lt (h1 g hg k hk),fun k hk=>Nat.lt_succ_of_lt (h2 k hk)⟩
  ·split
   ·refine⟨fun g hg k hk=>Nat.lt_succ_of_lt (h1 g hg k hk),fun k hk=>?_⟩
    rcases List.mem_append.1 hk with h|h
    ·exact Nat.lt_succ_of_lt (h2 k h)
    ·simp at h;omega
   ·refine⟨fun g hg k hk=>?_,fun k hk=>by simp at hk;omega⟩
    dsimp only at hg;split at hg
    ·exact Nat.lt_succ_of_lt (h1 g hg k hk)
    ·rcases List.mem_append.1 hg with h|h
     ·exact Nat.lt_succ_of_lt (h1 g h k hk)
     ·simp at h;subst h;exact Nat.lt_succ_of_lt (h2 k hk)
theorem lM{b j:Nat→Bool}{n:Nat}:∀g∈dR (bO b j n),∀k∈g,k<n:=by
 obtain⟨h1,h2⟩:=cZh b j n;intro g hg;unfold dR at hg;split at hg
 ·exact h1 g hg
 ·rcases List.mem_append.1 hg with h|h
  ·exact h1 g h
  ·simp at h;subst h;exact h2
theorem gZp(b j:Nat→Bool):∀i,(∀g∈(bO b j i).1,g.length≤i)∧(bO b j i).2.length≤i
 |0=>by simp[bO]
 |i+1=>by
  obtain⟨h1,h2⟩:=gZp b j i;rw[bO];split
  ·exact⟨fun g hg=>Nat.le_succ_of_le (h1 g hg),Nat.le_succ_of_le h2⟩
  ·split
   ·exact⟨fun g hg=>Nat.le_succ_of_le (h1 g hg),by simp;omega⟩
   ·refine⟨fun g hg=>?_,by simp⟩
    dsimp only at hg;split at hg
    ·exact Nat.le_succ_of_le (h1 g hg)
    ·rcases List.mem_append.1 hg with h|h
     ·exact Nat.le_succ_of_le (h1 g h)
     ·simp at h;subst h;omega
theorem mK{b j:Nat→Bool}{n:Nat}:∀g∈dR (bO b j n),g.length≤n:=by
 obtain⟨h1,h2⟩:=gZp b j n;intro g hg;unfold dR at hg;split at hg
 ·exact h1 g hg
 ·rcases List.mem_append.1 hg with h|h
  ·exact h1 g h
  ·simp at h;subst h;exact h2
theorem oF:∀(G:List (List Nat)) (i:Nat),cof G i=[]∨cof G i∈G
 |[],_=> .inl rfl
 |g::G,i=>by
  rw[cof];split
  ·exact .inr (by simp)
  ·rcases oF G i with h|h
   ·exact .inl h
   ·exact .inr (by simp[h])
def lnk(f:Nat→Co)(n i:Nat):Bool:=
 if(f i).e-(f (i-1)).e=1 then(if(f (i-1)).o=true∧(f i).o=true then decide (kD f (cof (aL f n) i)) else((f (i-1)).o||(f i).o))
 else if(f i).e-(f (i-1)).e=2 then((f (i-1)).o&&(f i).o) else false
theorem kZZ(p:Int)(f:Nat→Co)(n i:Nat)(H:Shp f n)(hy:∀i,i<n→0≤(f i).y∧(f i).y≤7)(hi:i<n)(h0i:0<i):Fn PZ En 185 [cO p f n,i6 i] (ex (.bool (lnk f n i))):=by
 have hn:=H.n20;have hi2:i-1<n:=oM;have hq2:((rows (ccs f) n).drop (i*5)).take 5=coc (f i):=bE (bC f) hi;have hq1:((rows (ccs f) n).drop ((i-1)*5)).take 5=coc (f (i-1)):=bE (bC f) hi2;have b1:=H.e0 _ hi2;have b2:=H.e1 _ hi2;have b3:=H.e0 _ hi;have b4:=H.e1 _ hi;have w1:=wM i oM;have w2:IntKind.i64.wrap ((f i).e-(f (i-1)).e)=(f i).e-(f (i-1)).e:=w64 oM oM;have C1:=tcof En p f n i H (fun g hg=>Nat.le_trans (mK g hg) hn) (Nat.le_trans (kU _ _ _).1 hn);have C2:=tgood En p f n (cof (aL f n) i) (fun k hk=>by
  rcases oF (aL f n) i with h|h
  ·rw[h] at hk;cases hk
  ·exact lM _ h k hk) hy
 unfold lnk;unfold cO at*;unfold coc at hq1 hq2
 by_cases d1:(f i).e-(f (i-1)).e=1
 ·rw[if_pos d1]
  cases ho1:(f (i-1)).o with
  |true=>
   rw[ho1] at hq1;cases ho2:(f i).o with
   |true=>
    rw[ho2] at hq2;rw[if_pos ⟨rfl,rfl⟩];refine aA Tryz.func185 rfl Tryz.ntmps185 rfl ?_;intro w0 h0;refine vS<|vB jj<|vZ jj<|vS<|vX jj<|jm jj<|vSu jj w1<|vD jj hi2 hq1<|vR jj<|vX jj<|jm jj<|vD jj hi hq2<|vR jj<|vA jj<|vA jj<|vP jj<|vP jj<|jn<|js<|vS<|vX jj<|vX jj<|vSu jj w2<|jn<|jb<|vS<|vEt jj<|vZ jj<|jt jj<|js<|vS<|vX jj<|jm jj ?_;refine kG ?_;refine kG ?_;refine kH ?_;refine jn<|jt jj<|vS<|vL jj<|vL jj<|jm jj<|vC C1 ⟨jj,jj,trivial⟩<|vC C2 ⟨jj,jj,trivial⟩<|vZ jj<|ji ?_;exact rtT rfl jj
   |false=>
    rw[ho2] at hq2;rw[if_neg (by simp)]
    refine aA Tryz.func185 rfl Tryz.ntmps185 rfl ?_;intro w0 h0;refine vS<|vB jj<|vZ jj<|vS<|vX jj<|jm jj<|vSu jj w1<|vD jj hi2 hq1<|vR jj<|vX jj<|jm jj<|vD jj hi hq2<|vR jj<|vA jj<|vA jj<|vP jj<|vP jj<|jn<|js<|vS<|vX jj<|vX jj<|vSu jj w2<|jn<|jb<|vS<|vEt jj<|vZ jj<|jt jj<|js<|vS<|vX jj<|jm jj ?_;refine kG ?_;refine kG ?_;refine kH ?_;refine jn<|jf jj<|jp<|vS<|vX jj<|jm jj ?_;refine kG ?_;refine kG ?_;refine kH ?_;refine vZ jj<|ji ?_;exact rtT rfl jj
  |false=>
   rw[ho1] at hq1;cases ho2:(f i).o with
   |true=>
    rw[ho2] at hq2;rw[if_neg (by simp)]
    refine aA Tryz.func185 rfl Tryz.ntmps185 rfl ?_;intro w0 h0;refine vS<|vB jj<|vZ jj<|vS<|vX jj<|jm jj<|vSu jj w1<|vD jj hi2 hq1<|vR jj<|vX jj<|jm jj<|vD jj hi hq2<|vR jj<|vA jj<|vA jj<|vP jj<|vP jj<|jn<|js<|vS<|vX jj<|vX jj<|vSu jj w2<|jn<|jb<|vS<|vEt jj<|vZ jj<|jt jj<|js<|vS<|vX jj<|jm jj ?_;refine kG ?_;refine kG ?_;refine kH ?_;refine jn<|jf jj<|jp<|vS<|vX jj<|jm jj ?_;refine kG ?_;refine kG ?_;refine kH ?_;refine vZ jj<|ji ?_;exact rtT rfl jj
   |false=>
    rw[ho2] at hq2;rw[if_neg (by simp)]
    refine aA Tryz.func185 rfl Tryz.ntmps185 rfl ?_;intro w0 h0;refine vS<|vB jj<|vZ jj<|vS<|vX jj<|jm jj<|vSu jj w1<|vD jj hi2 hq1<|vR jj<|vX jj<|jm jj<|vD jj hi hq2<|vR jj<|vA jj<|vA jj<|vP jj<|vP jj<|jn<|js<|vS<|vX jj<|vX jj<|vSu jj w2<|jn<|jb<|vS<|vEt jj<|vZ jj<|jt jj<|js<|vS<|vX jj<|jm jj ?_;refine kG ?_;refine kG ?_;refine kH ?_;refine jn<|jf jj<|jp<|vS<|vX jj<|jm jj ?_;refine kG ?_;refine kG ?_;refine kH ?_;refine vZ jj<|ji ?_;exact rtT rfl jj
 ·rw[if_neg d1]
  by_cases d2:(f i).e-(f (i-1)).e=2
  ·rw[if_pos d2]
   cases ho1:(f (i-1)).o with
   |true=>
    rw[ho1] at hq1;cases ho2:(f i).o with
    |true=>
     rw[ho2] at hq2;refine aA Tryz.func185 rfl Tryz.ntmps185 rfl ?_;intro w0 h0;refine vS<|vB jj<|vZ jj<|vS<|vX jj<|jm jj<|vSu jj w1<|vD jj hi2 hq1<|vR jj<|vX jj<|jm jj<|vD jj hi hq2<|vR jj<|vA jj<|vA jj<|vP jj<|vP jj<|jn<|js<|vS<|vX jj<|vX jj<|vSu jj w2<|jn<|jb<|vS<|vEf jj<|vZ jj<|jf jj<|vS<|vEt jj<|vZ jj ?_;refine jt jj<|vS<|vX jj<|jm jj ?_;refine kG ?_;refine kG ?_;refine kH ?_;refine vZ jj<|ji ?_;exact rtT rfl jj
    |false=>
     rw[ho2] at hq2;refine aA Tryz.func185 rfl Tryz.ntmps185 rfl ?_;intro w0 h0;refine vS<|vB jj<|vZ jj<|vS<|vX jj<|jm jj<|vSu jj w1<|vD jj hi2 hq1<|vR jj<|vX jj<|jm jj<|vD jj hi hq2<|vR jj<|vA jj<|vA jj<|vP jj<|vP jj<|jn<|js<|vS<|vX jj<|vX jj<|vSu jj w2<|jn<|jb<|vS<|vEf jj<|vZ jj<|jf jj<|vS<|vEt jj<|vZ jj ?_;refine jt jj<|vS<|vX jj<|jm jj ?_;refine kG ?_;refine kG ?_;refine kH ?_;refine vZ jj<|ji ?_;exact rtT rfl jj
   |false=>
    rw[ho1] at hq1;cases ho2:(f i).o with
    |true=>
     rw[ho2] at hq2;refine aA Tryz.func185 rfl Tryz.ntmps185 rfl ?_;intro w0 h0;refine vS<|vB jj<|vZ jj<|vS<|vX jj<|jm jj<|vSu jj w1<|vD jj hi2 hq1<|vR jj<|vX jj<|jm jj<|vD jj hi hq2<|vR jj<|vA jj<|vA jj<|vP jj<|vP jj<|jn<|js<|vS<|vX jj<|vX jj<|vSu jj w2<|jn<|jb<|vS<|vEf jj<|vZ jj<|jf jj<|vS<|vEt jj<|vZ jj ?_;refine jt jj<|vS<|vX jj<|jm jj ?_;refine kG ?_;refine kG ?_;refine kH ?_;refine vZ jj<|ji ?_;exact rtT rfl jj
    |false=>
     rw[ho2] at hq2;refine aA Tryz.func185 rfl Tryz.ntmps185 rfl ?_;intro w0 h0;refine vS<|vB jj<|vZ jj<|vS<|vX jj<|jm jj<|vSu jj w1<|vD jj hi2 hq1<|vR jj<|vX jj<|jm jj<|vD jj hi hq2<|vR jj<|vA jj<|vA jj<|vP jj<|vP jj<|jn<|js<|vS<|vX jj<|vX jj<|vSu jj w2<|jn<|jb<|vS<|vEf jj<|vZ jj<|jf jj<|vS<|vEt jj<|vZ jj ?_;refine jt jj<|vS<|vX jj<|jm jj ?_;refine kG ?_;refine kG ?_;refine kH ?_;refine vZ jj<|ji ?_;exact rtT rfl jj
  ·rw[if_neg d2]
   refine aA Tryz.func185 rfl Tryz.ntmps185 rfl ?_;intro w0 h0;refine vS<|vB jj<|vZ jj<|vS<|vX jj<|jm jj<|vSu jj w1<|vD jj hi2 hq1<|vR jj<|vX jj<|jm jj<|vD jj hi hq2<|vR jj<|vA jj<|vA jj<|vP jj<|vP jj<|jn<|js<|vS<|vX jj<|vX jj<|vSu jj w2<|jn<|jb<|vS<|vEf jj<|vZ jj<|jf jj<|vS<|vEf jj<|vZ jj ?_;refine jf jj<|jp<|vS<|vZ jj<|ji ?_;exact rtT rfl jj
end
end
end Go.Proofs.YtfmjdlogjmofbaaGreatDoor

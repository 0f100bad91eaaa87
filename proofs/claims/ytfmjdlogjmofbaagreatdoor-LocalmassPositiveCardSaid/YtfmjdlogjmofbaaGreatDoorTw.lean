/- Trains; the shape of a symbol at 2; what is fused: the program's. (With LT.skipU.) -/
import Derived.Test.YtfmjdlogjmofbaaGreatDoorJ
import Derived.Test.YtfmjdlogjmofbaaGreatDoorTh
import Derived.Deep.QuietTactic
import Derived.BigQuiet
import Derived.Test.YtfmjdlogjmofbaaGreatDoorG
import Derived.Test.YtfmjdlogjmofbaaGreatDoorK
import Derived.Test.YtfmjdlogjmofbaaGreatDoorV
import Derived.Test.YtfmjdlogjmofbaaGreatDoorW
set_option maxHeartbeats 4000000
set_option maxRecDepth 3000
namespace Go.Proofs.YtfmjdlogjmofbaaGreatDoor
section
open Go.RowKit Limb Num
instance kb166:CBody PZ 166:=cB Tryz.func166
instance(f:Go.Fn)(a b:Array Value):C1 (ex (.func f a b)):=⟨fun _ _ h=>by rw[h];rfl⟩
theorem nZh{p q r:Pd}(h:PLe p q):PLe (cD [p,r]) (cD [q,r]):=by
 rintro h' v ⟨vs,e,ha⟩;match vs,ha with
 |[a,b],⟨h1,h2,h3,h4,h5⟩=>exact⟨[a,b],e,h _ _ h1,h2,h3,h4,h5⟩
section
variable(En:Ev)
theorem ttrue(i:Nat):Fn PZ En 183 [i6 i] (ex (.bool true)):=by
 refine aA Tryz.func183 rfl Tryz.ntmps183 rfl ?_;intro w0 h0;refine vS<|vZ jj<|vS<|vZ jj<|ji ?_;exact rtT rfl jj
theorem kZU(p:Int)(f:Nat→Co)(n i:Nat)(H:Shp f n)(hy:∀i,i<n→0≤(f i).y∧(f i).y≤7)(hi:i<n)(h0i:0<i):Fn PZ En 184 [i6 i,cpR [i6 p,slc 5 (rows (ccs f) n) n]] (ex (.bool (lnk f n i))):=by
 have C1:=kZZ En p f n i H hy hi h0i;unfold cO at C1;refine aA Tryz.func184 rfl Tryz.ntmps184 rfl ?_;intro w0 h0;refine vS<|vZ jj<|vS<|vR jj<|jm jj<|vC C1 ⟨jj,jj,trivial⟩<|vZ jj<|ji ?_;exact rtT rfl jj
def chn(f:Nat→Co)(n:Nat):List (List Nat):=dR (bO (fun _=>true) (lnk f n) n)
theorem kZT(p:Int)(f:Nat→Co)(n:Nat)(H:Shp f n)(hy:∀i,i<n→0≤(f i).y∧(f i).y≤7):Fn PZ En 167 [cO p f n] (iA (chn f n)):=by
 have C0:=cZM En n H.n20 183 184 [] [[i6 p,slc 5 (rows (ccs f) n) n]] (fun _=>true) (lnk f n) (fun i _=>ttrue En i) (fun i hi h0=>kZU En p f n i H hy hi h0);have C1:=C0.arg (ps:=[i6 n,cD [ex (.func (.func 183) #[] #[]),cl 184 [[i6 p,slc 5 (rows (ccs f) n) n]]]]) ⟨PLe.refl _,nZh (pZ5 _),trivial⟩;unfold cO chn;refine aA Tryz.func167 rfl Tryz.ntmps167 rfl ?_;intro w0 h0;refine vS<|vB jj<|vZ jj ?_;refine WpD.sub (τ:=⟨[(1,.one (cpR [i6 p,slc 5 (rows (ccs f) n) n]))],[]⟩) ?_ ?_
 ·exact Sub.pub 1 rfl rfl ⟨.inr (.inr (.inr ⟨_,_,rfl,rfl,PLe.refl _⟩)),trivial⟩ trivial rfl
 refine kR ?_;refine jS (aI jj jj)<|vT jj<|jE jj<|jS (nV jj)<|jS (aU (ps:=[(_,_),(_,_)]) ⟨jj,Part.c jj,jj,Part.c jj,trivial⟩ jj)<|vC C1 tB<|vZ jj<|ji ?_;exact rtT rfl jj
end
def iN(f:Nat→Co)(i:Nat):Int:=if i=0 then-1 else(f (i-1)).e
def dJ(f:Nat→Co):Nat→Int
 |0=>0
 |i+1=>dJ f i+(f i).d
def shU(f:Nat→Co):Nat→Prop
 |0=>True
 |i+1=>shU f i∧iN f i<(f i).e∧(f i).e≤60∧1≤(f i).d∧(f i).d≤8-dJ f i
instance lZh(f:Nat→Co):∀n,Decidable (shU f n)
 |0=> .isTrue trivial
 |n+1=>by unfold shU;have:=lZh f n;infer_instance
def shP(p:Int)(f:Nat→Co)(n:Nat):Prop:=p=2∧n≠0∧shU f n
instance(p:Int)(f:Nat→Co)(n:Nat):Decidable (shP p f n):=by unfold shP;infer_instance
theorem xO{f:Nat→Co}:∀{n i:Nat},i≤n→shU f n→shU f i
 |0,i,h,hs=>by rw[show i=0 by omega];exact hs
 |n+1,i,h,hs=>by
  by_cases e:i=n+1
  ·rw[e];exact hs
  ·exact xO oM hs.1
theorem qS{f:Nat→Co}:∀{i:Nat},shU f i→(i:Int)≤dJ f i∧dJ f i≤8∧-1≤iN f i∧iN f i≤60
 |0,_=>by simp[dJ,iN]
 |i+1,⟨h1,h2,h3,h4,h5⟩=>by
  obtain⟨a,b,c,d⟩:=qS h1;have e1:dJ f (i+1)=dJ f i+(f i).d:=rfl;have e2:iN f (i+1)=(f i).e:=by unfold iN;rw[if_neg oM,Nat.add_sub_cancel]
  rw[e1,e2];omega
theorem yZ(f:Nat→Co)(i:Nat):iN f (i+1)=(f i).e:=by unfold iN;rw[if_neg oM,Nat.add_sub_cancel]
section
variable(En:Ev)
theorem kZV(p:Int)(f:Nat→Co)(n:Nat)(hn:n≤1000):Fn PZ En 164 [cO p f n] (ex (.bool (decide (shP p f n)))):=by
 unfold cO
 by_cases hp:p=2
 ·by_cases hn0:n=0
  ·rw[decide_eq_false (fun h=>h.2.1 hn0)]
   have hn':((n:Nat):Int)=0:=oM;refine aA Tryz.func164 rfl Tryz.ntmps164 rfl ?_;intro w0 h0;refine vS<|vB jj<|vZ jj<|js<|vS<|vX jj<|vNf jj<|jm jj<|vY jj<|jg (dQ jj CSlice.ok)<|uEt jj<|vQ jj<|jn<|jt jj<|vS<|vZ jj<|ji ?_;exact rtT rfl jj
  ·have hn':((n:Nat):Int)≠0:=oM
   have key:∀i,i<n→¬shU f (i+1)→¬shP p f n:=fun i hi h h'=>h (xO oM h'.2.2);refine aA Tryz.func164 rfl Tryz.ntmps164 rfl ?_;intro w0 h0;refine vS<|vB jj<|vZ jj<|js<|vS<|vX jj<|vNf jj<|jm jj<|vY jj<|jg (dQ jj CSlice.ok)<|uEf jj<|vQ jj<|jn<|jf jj<|jp<|vS<|ja jj<|vZ jj<|js<|vS<|vX jj<|jE jj<|jm jj<|jn<|jb ?_;refine WpD.loop (α:={i:Nat//i≤n∧shU f i}) (fun i=>⟨[(3,.one (i6 (dJ f i.1))),(4,.one (i6 (iN f i.1))),(17,.one (slc 5 (rows (ccs f) n) n)),(18,.one (i6 n)),(19,.one (i6 i.1))],[]⟩) (fun i=>n-i.1) ⟨0,Nat.zero_le _,trivial⟩ ?_ ?_
   ·exact Sub.mk sJ sJ
   rintro⟨i,hi,hs⟩;dsimp only at hi hs ⊢;obtain⟨s1,s2,s3,s4⟩:=qS hs
   by_cases hlt:i<n
   ·have hq:((rows (ccs f) n).drop (i*5)).take 5=coc (f i):=bE (bC f) hlt
    have w1:=wS i oM;have w2:IntKind.i64.wrap (8-dJ f i)=8-dJ f i:=w64 oM oM
    by_cases c1:(f i).e≤iN f i
    ·rw[decide_eq_false (key i hlt fun h=>by have:=h.2.1;omega)]
     refine vS<|vLt jj<|vW jj<|vS<|vD jj hlt hq<|vR jj<|vA jj<|vP jj<|jn<|js<|vS<|vX jj<|jm jj<|jS (bMt jj jj)<|jm jj<|jk<|jk<|jk<|vq jj<|jm jj<|jk<|jk<|jk<|vq jj<|jm jj<|jk<|jk<|jk<|jk<|jk<|vq jj<|jn ?_;refine jt jj<|vS<|vZ jj<|ji ?_;exact rtT rfl jj
    by_cases c2:(f i).e>60
    ·rw[decide_eq_false (key i hlt fun h=>by have:=h.2.2.1;omega)]
     refine vS<|vLt jj<|vW jj<|vS<|vD jj hlt hq<|vR jj<|vA jj<|vP jj<|jn<|js<|vS<|vX jj<|jm jj<|vMf jj<|jm jj<|vY jj<|uGt jj<|vQ jj<|jm jj<|jk<|jk<|jk<|vq jj<|jm jj<|jk<|jk<|jk<|jk<|jk<|vq jj<|jn ?_;refine jt jj<|vS<|vZ jj<|ji ?_;exact rtT rfl jj
    by_cases c3:(f i).d<1
    ·rw[decide_eq_false (key i hlt fun h=>by have:=h.2.2.2.1;omega)]
     refine vS<|vLt jj<|vW jj<|vS<|vD jj hlt hq<|vR jj<|vA jj<|vP jj<|jn<|js<|vS<|vX jj<|jm jj<|vMf jj<|jm jj<|vY jj<|uGf jj<|vQ jj<|jm jj<|vY jj<|jg (bLt jj jj)<|vQ jj<|jm jj<|jk<|jk<|jk<|jk<|jk<|vq jj<|jn ?_;refine jt jj<|vS<|vZ jj<|ji ?_;exact rtT rfl jj
    by_cases c4:(f i).d>8-dJ f i
    ·rw[decide_eq_false (key i hlt fun h=>by have:=h.2.2.2.2;omega)]
     refine vS<|vLt jj<|vW jj<|vS<|vD jj hlt hq<|vR jj<|vA jj<|vP jj<|jn<|js<|vS<|vX jj<|jm jj<|vMf jj<|jm jj<|vY jj<|uGf jj<|vQ jj<|jm jj<|vY jj<|uLf jj<|vQ jj<|jm jj<|vY jj<|jgm jj<|jg (bSu jj jj w2)<|uGt jj<|vQ jj<|jn ?_;refine jt jj<|vS<|vZ jj<|ji ?_;exact rtT rfl jj
    have w3:IntKind.i64.wrap (dJ f i+(f i).d)=dJ f (i+1):=w64 oM oM;refine vS<|vLt jj<|vW jj<|vS<|vD jj hlt hq<|vR jj<|vA jj<|vP jj<|jn<|js<|vS<|vX jj<|jm jj<|vMf jj<|jm jj<|vY jj<|uGf jj<|vQ jj<|jm jj<|vY jj<|uLf jj<|vQ jj<|jm jj<|vY jj<|jgm jj<|jg (bSu jj jj w2)<|uGf jj<|vQ jj<|jn ?_;refine jf jj<|jp<|vS<|jm jj<|vX jj<|vAd jj w3<|vZ jj<|jr<|vX jj<|vZ jj<|jr<|vAd jj w1<|jm jj<|jn ?_;refine⟨⟨i+1,oM,hs,oM,oM,oM,oM⟩,?_,oD⟩;dsimp only;rw[yZ];exact Sub.mk sJ sJ
   ·have hin:i=n:=oM
    subst hin;rw[decide_eq_true (show shP p f i from⟨hp,hn0,hs⟩)]
    refine vS<|vLf jj<|vU jj<|vS<|vZ jj<|ji ?_;exact rtT rfl jj
 ·rw[decide_eq_false (fun h=>hp h.1)]
  refine aA Tryz.func164 rfl Tryz.ntmps164 rfl ?_;intro w0 h0;refine vS<|vB jj<|vZ jj<|js<|vS<|vX jj<|vNt jj<|jm jj<|jk<|jk<|jk<|jk<|vq jj<|jn<|jt jj<|vS<|vZ jj<|ji ?_;exact rtT rfl jj
end
theorem tm2(a:Int):(a.tmod 2 !=0)=decide (a%2≠0):=by
 have h:a.tmod 2=0↔a%2=0:=by
  rw[←Int.dvd_iff_tmod_eq_zero,Int.dvd_iff_emod_eq_zero]
 by_cases h1:a%2=0
 ·rw[h.2 h1,decide_eq_false (by simp[h1])];rfl
 ·rw[decide_eq_true h1]
  exact bne_iff_ne.2 fun h2=>h1 (h.1 h2)
def iU(c:Co):Prop:=(c.s=1∨c.s= -1)∧0≤c.y∧c.y≤7∧(c.o=false→c.d%2=0∧c.y=0)
instance(c:Co):Decidable (iU c):=by unfold iU;infer_instance
def fuU(f:Nat→Co):Nat→Prop
 |0=>True
 |i+1=>fuU f i∧iU (f i)
instance mZg(f:Nat→Co):∀n,Decidable (fuU f n)
 |0=> .isTrue trivial
 |n+1=>by unfold fuU;have:=mZg f n;infer_instance
theorem cZm{f:Nat→Co}:∀{n i:Nat},i≤n→fuU f n→fuU f i
 |0,i,h,hs=>by rw[show i=0 by omega];exact hs
 |n+1,i,h,hs=>by
  by_cases e:i=n+1
  ·rw[e];exact hs
  ·exact cZm oM hs.1
theorem gH{f:Nat→Co}{n i:Nat}(h:fuU f n)(hi:i<n):iU (f i):=(cZm (i:=i+1) oM h).2
theorem dX{f:Nat→Co}{n i:Nat}(h:shU f n)(hi:i<n):0≤(f i).e∧(f i).e≤60∧1≤(f i).d∧(f i).d≤8:=by
 have h1:=xO (i:=i+1) oM h;obtain⟨a,b,c,d⟩:=qS h1.1;obtain⟨_,h2,h3,h4,h5⟩:=h1;omega
theorem iZj{f:Nat→Co}{n:Nat}(h:shU f n):n≤8:=by have:=qS h;omega
def gU(f:Nat→Co)(g:List Nat):Nat→Prop
 |0=>True
 |k+1=>gU f g k∧(0<k→(f (g.getD k 0)).y=0)
instance pZk(f:Nat→Co)(g:List Nat):∀n,Decidable (gU f g n)
 |0=> .isTrue trivial
 |n+1=>by unfold gU;have:=pZk f g n;infer_instance
theorem jZC{f:Nat→Co}{g:List Nat}:∀{n i:Nat},i≤n→gU f g n→gU f g i
 |0,i,h,hs=>by rw[show i=0 by omega];exact hs
 |n+1,i,h,hs=>by
  by_cases e:i=n+1
  ·rw[e];exact hs
  ·exact jZC oM hs.1
def gsm(f:Nat→Co)(g:List Nat):Nat→Int
 |0=>0
 |k+1=>gsm f g k+(f (g.getD k 0)).d
def gOK(f:Nat→Co)(g:List Nat):Prop:=gU f g g.length∧((f (g.getD 0 0)).y-gsm f g g.length)%2=0
instance(f:Nat→Co)(g:List Nat):Decidable (gOK f g):=by unfold gOK;infer_instance
def grU(f:Nat→Co)(G:List (List Nat)):Nat→Prop
 |0=>True
 |k+1=>grU f G k∧gOK f (G.getD k [])
instance mZd(f:Nat→Co)(G:List (List Nat)):∀n,Decidable (grU f G n)
 |0=> .isTrue trivial
 |n+1=>by unfold grU;have:=mZd f G n;infer_instance
theorem fZj{f:Nat→Co}{G:List (List Nat)}:∀{n i:Nat},i≤n→grU f G n→grU f G i
 |0,i,h,hs=>by rw[show i=0 by omega];exact hs
 |n+1,i,h,hs=>by
  by_cases e:i=n+1
  ·rw[e];exact hs
  ·exact fZj oM hs.1
def lD(p:Int)(f:Nat→Co)(n:Nat):Prop:=shP p f n∧fuU f n∧grU f (aL f n) (aL f n).length
instance(p:Int)(f:Nat→Co)(n:Nat):Decidable (lD p f n):=by unfold lD;infer_instance
theorem cZg(b j:Nat→Bool):∀i,∀g∈(bO b j i).1,g≠[]
 |0=>by simp[bO]
 |i+1=>by
  have h1:=cZg b j i;rw[bO];split
  ·exact h1
  ·split
   ·exact h1
   ·intro g hg
    dsimp only at hg;split at hg
    ·exact h1 g hg
    ·rename_i hne
     rcases List.mem_append.1 hg with h|h
     ·exact h1 g h
     ·simp at h;subst h;exact hne
theorem tH{b j:Nat→Bool}{n:Nat}:∀g∈dR (bO b j n),g≠[]:=by
 intro g hg;unfold dR at hg;split at hg
 ·exact cZg b j n g hg
 ·rename_i hne
  rcases List.mem_append.1 hg with h|h
  ·exact cZg b j n g h
  ·simp at h;subst h;exact hne
theorem fZi{f:Nat→Co}{n:Nat}(hs:shU f n){g:List Nat}(hg:∀k∈g,k<n):∀{k:Nat},k≤g.length→0≤gsm f g k∧gsm f g k≤(k:Int)*8
 |0,_=>by simp[gsm]
 |k+1,h=>by
  have ih:=fZi hs hg (k:=k) oM;have hk:g.getD k 0∈g:=by simp[List.getD,List.getElem?_eq_getElem (show k<g.length by omega)]
  have:=dX hs (hg _ hk);rw[gsm];omega
section
variable(En:Ev)
theorem oZq(p:Int)(f:Nat→Co)(n:Nat)(hn:n≤20):Fn PZ En 166 [cO p f n] (ex (.bool (decide (lD p f n)))):=by
 have C0:=kZV En p f n oM;unfold cO at*
 by_cases hsh:shP p f n
 ·rw[decide_eq_true hsh] at C0
  have key:∀i,i<n→¬fuU f (i+1)→¬lD p f n:=fun i hi h h'=>h (cZm oM h'.2.1);have hsU:=hsh.2.2;have hn8:=iZj hsU;refine aA Tryz.func166 rfl Tryz.ntmps166 rfl ?_;intro w0 h0;refine vS<|vB jj<|vZ jj<|js<|vS<|vL jj<|vC C0 ⟨jj,trivial⟩<|jS (bNo jj)<|jn<|jf jj<|jp<|js<|vS<|vX jj<|jE jj<|jm jj<|jn<|jb ?_;refine WpD.loop (α:={i:Nat//i≤n∧fuU f i}) (fun i=>⟨[(1,.ptr 1 0),(14,.one (slc 5 (rows (ccs f) n) n)),(15,.one (i6 n)),(16,.one (i6 i.1))],[(1,[i6 p,slc 5 (rows (ccs f) n) n])]⟩) (fun i=>n-i.1) ⟨0,Nat.zero_le _,trivial⟩ ?_ ?_
  ·exact Sub.mk sJ sJ
  rintro⟨i,hi,hs⟩;dsimp only at hi hs ⊢
  by_cases hlt:i<n
  ·have hq:((rows (ccs f) n).drop (i*5)).take 5=[ex (.int .i64 (f i).e),ex (.int .i64 (f i).d),ex (.int .i64 (f i).s),ex (.bool (f i).o),ex (.int .i64 (f i).y)]:=bE (bC f) hlt
   have hb:=dX hsU hlt;have w1:=wS i oM;have wm:(f i).d.tmod 2=(f i).d%2:=Int.tmod_eq_emod_of_nonneg oM
   by_cases s1:(f i).s=1
   ·skip
    by_cases y1:(f i).y<0
    ·rw[decide_eq_false (key i hlt fun h=>by have h:=h.2;unfold iU at h;omega)]
     refine vS<|vLt jj<|vW jj<|vS<|vD jj hlt hq<|vR jj<|vA jj<|vP jj<|jn<|js<|vS<|vX jj<|vNf jj<|jm jj<|jk<|jk<|jk<|vQ jj<|jm jj<|vY jj<|jg (bLt jj jj)<|vQ jj<|jm jj<|jk<|jk<|jk<|vq jj<|jn<|jt jj<|vS<|vZ jj ?_;refine ji ?_;exact rtT rfl jj
    by_cases y2:(f i).y>7
    ·rw[decide_eq_false (key i hlt fun h=>by have h:=h.2;unfold iU at h;omega)]
     refine vS<|vLt jj<|vW jj<|vS<|vD jj hlt hq<|vR jj<|vA jj<|vP jj<|jn<|js<|vS<|vX jj<|vNf jj<|jm jj<|jk<|jk<|jk<|vQ jj<|jm jj<|vY jj<|uLf jj<|vQ jj<|jm jj<|vY jj<|uGt jj<|vQ jj<|jn<|jt jj<|vS<|vZ jj ?_;refine ji ?_;exact rtT rfl jj
    cases ho:(f i).o with
    |true=>
     rw[ho] at hq;have hrow:iU (f i):=⟨oM,oM,oM,fun h=>by rw[ho] at h;cases h⟩
     refine vS<|vLt jj<|vW jj<|vS<|vD jj hlt hq<|vR jj<|vA jj<|vP jj<|jn<|js<|vS<|vX jj<|vNf jj<|jm jj<|jk<|jk<|jk<|vQ jj<|jm jj<|vY jj<|uLf jj<|vQ jj<|jm jj<|vY jj<|uGf jj<|vQ jj<|jn<|jf jj<|jp<|vS<|vX jj<|jS (bNo jj)<|jm jj<|jk<|jk<|jk<|jk<|jk<|ju<|ju<|ju<|jk<|vQ jj<|jn ?_;refine jf jj<|jp<|jr<|vAd jj w1<|jm jj<|jn ?_;refine⟨⟨i+1,oM,hs,hrow⟩,?_,oD⟩;exact Sub.mk sJ sJ
    |false=>
     rw[ho] at hq
     by_cases p1:(f i).d%2=0
     ·by_cases p2:(f i).y=0
      ·have hrow:iU (f i):=⟨oM,oM,oM,fun _=>⟨p1,p2⟩⟩
       refine vS<|vLt jj<|vW jj<|vS<|vD jj hlt hq<|vR jj<|vA jj<|vP jj<|jn<|js<|vS<|vX jj<|vNf jj<|jm jj<|jk<|jk<|jk<|vQ jj<|jm jj<|vY jj<|uLf jj<|vQ jj<|jm jj<|vY jj<|uGf jj<|vQ jj<|jn<|jf jj<|jp<|vS<|vX jj<|jS (bNo jj)<|jm jj<|vY jj<|jg (bRe jj jj wm)<|uNf jj<|jgm jj<|vY jj<|uNf jj<|jg (bZ jj jj)<|vq jj<|jn ?_;refine jf jj<|jp<|jr<|vAd jj w1<|jm jj<|jn ?_;refine⟨⟨i+1,oM,hs,hrow⟩,?_,oD⟩;exact Sub.mk sJ sJ
      ·rw[decide_eq_false (key i hlt fun h=>by have h:=h.2;unfold iU at h;exact p2 (h.2.2.2 ho).2)]
       refine vS<|vLt jj<|vW jj<|vS<|vD jj hlt hq<|vR jj<|vA jj<|vP jj<|jn<|js<|vS<|vX jj<|vNf jj<|jm jj<|jk<|jk<|jk<|vQ jj<|jm jj<|vY jj<|uLf jj<|vQ jj<|jm jj<|vY jj<|uGf jj<|vQ jj<|jn<|jf jj<|jp<|vS<|vX jj<|jS (bNo jj)<|jm jj<|vY jj<|jg (bRe jj jj wm)<|uNf jj<|jgm jj<|vY jj<|uNt jj<|jg (bZ jj jj)<|vq jj<|jn ?_;refine jt jj<|vS<|vZ jj<|ji ?_;exact rtT rfl jj
     ·rw[decide_eq_false (key i hlt fun h=>by have h:=h.2;unfold iU at h;exact p1 (h.2.2.2 ho).1)]
      refine vS<|vLt jj<|vW jj<|vS<|vD jj hlt hq<|vR jj<|vA jj<|vP jj<|jn<|js<|vS<|vX jj<|vNf jj<|jm jj<|jk<|jk<|jk<|vQ jj<|jm jj<|vY jj<|uLf jj<|vQ jj<|jm jj<|vY jj<|uGf jj<|vQ jj<|jn<|jf jj<|jp<|vS<|vX jj<|jS (bNo jj)<|jm jj<|vY jj<|jg (bRe jj jj wm)<|uNt jj<|jgm jj<|jk<|jk<|jk<|jg (dE jj jj)<|vq jj<|jn ?_;refine jt jj<|vS<|vZ jj<|ji ?_;exact rtT rfl jj
   by_cases s2:(f i).s= -1
   ·skip
    by_cases y1:(f i).y<0
    ·rw[decide_eq_false (key i hlt fun h=>by have h:=h.2;unfold iU at h;omega)]
     refine vS<|vLt jj<|vW jj<|vS<|vD jj hlt hq<|vR jj<|vA jj<|vP jj<|jn<|js<|vS<|vX jj<|vNt jj<|jm jj<|vY jj<|uNf jj<|vq jj<|jm jj<|vY jj<|jg (bLt jj jj)<|vQ jj<|jm jj<|jk<|jk<|jk<|vq jj<|jn<|jt jj<|vS<|vZ jj ?_;refine ji ?_;exact rtT rfl jj
    by_cases y2:(f i).y>7
    ·rw[decide_eq_false (key i hlt fun h=>by have h:=h.2;unfold iU at h;omega)]
     refine vS<|vLt jj<|vW jj<|vS<|vD jj hlt hq<|vR jj<|vA jj<|vP jj<|jn<|js<|vS<|vX jj<|vNt jj<|jm jj<|vY jj<|uNf jj<|vq jj<|jm jj<|vY jj<|uLf jj<|vQ jj<|jm jj<|vY jj<|uGt jj<|vQ jj<|jn<|jt jj<|vS<|vZ jj ?_;refine ji ?_;exact rtT rfl jj
    cases ho:(f i).o with
    |true=>
     rw[ho] at hq;have hrow:iU (f i):=⟨oM,oM,oM,fun h=>by rw[ho] at h;cases h⟩
     refine vS<|vLt jj<|vW jj<|vS<|vD jj hlt hq<|vR jj<|vA jj<|vP jj<|jn<|js<|vS<|vX jj<|vNt jj<|jm jj<|vY jj<|uNf jj<|vq jj<|jm jj<|vY jj<|uLf jj<|vQ jj<|jm jj<|vY jj<|uGf jj<|vQ jj<|jn<|jf jj<|jp<|vS<|vX jj<|jS (bNo jj)<|jm jj<|jk<|jk<|jk<|jk<|jk<|ju<|ju<|ju<|jk<|vQ jj<|jn ?_;refine jf jj<|jp<|jr<|vAd jj w1<|jm jj<|jn ?_;refine⟨⟨i+1,oM,hs,hrow⟩,?_,oD⟩;exact Sub.mk sJ sJ
    |false=>
     rw[ho] at hq
     by_cases p1:(f i).d%2=0
     ·by_cases p2:(f i).y=0
      ·have hrow:iU (f i):=⟨oM,oM,oM,fun _=>⟨p1,p2⟩⟩
       refine vS<|vLt jj<|vW jj<|vS<|vD jj hlt hq<|vR jj<|vA jj<|vP jj<|jn<|js<|vS<|vX jj<|vNt jj<|jm jj<|vY jj<|uNf jj<|vq jj<|jm jj<|vY jj<|uLf jj<|vQ jj<|jm jj<|vY jj<|uGf jj<|vQ jj<|jn<|jf jj<|jp<|vS<|vX jj<|jS (bNo jj)<|jm jj<|vY jj<|jg (bRe jj jj wm)<|uNf jj<|jgm jj<|vY jj<|uNf jj<|jg (bZ jj jj)<|vq jj<|jn ?_;refine jf jj<|jp<|jr<|vAd jj w1<|jm jj<|jn ?_;refine⟨⟨i+1,oM,hs,hrow⟩,?_,oD⟩;exact Sub.mk sJ sJ
      ·rw[decide_eq_false (key i hlt fun h=>by have h:=h.2;unfold iU at h;exact p2 (h.2.2.2 ho).2)]
       refine vS<|vLt jj<|vW jj<|vS<|vD jj hlt hq<|vR jj<|vA jj<|vP jj<|jn<|js<|vS<|vX jj<|vNt jj<|jm jj<|vY jj<|uNf jj<|vq jj<|jm jj<|vY jj<|uLf jj<|vQ jj<|jm jj<|vY jj<|uGf jj<|vQ jj<|jn<|jf jj<|jp<|vS<|vX jj<|jS (bNo jj)<|jm jj<|vY jj<|jg (bRe jj jj wm)<|uNf jj<|jgm jj<|vY jj<|uNt jj<|jg (bZ jj jj)<|vq jj<|jn ?_;refine jt jj<|vS<|vZ jj<|ji ?_;exact rtT rfl jj
     ·rw[decide_eq_false (key i hlt fun h=>by have h:=h.2;unfold iU at h;exact p1 (h.2.2.2 ho).1)]
      refine vS<|vLt jj<|vW jj<|vS<|vD jj hlt hq<|vR jj<|vA jj<|vP jj<|jn<|js<|vS<|vX jj<|vNt jj<|jm jj<|vY jj<|uNf jj<|vq jj<|jm jj<|vY jj<|uLf jj<|vQ jj<|jm jj<|vY jj<|uGf jj<|vQ jj<|jn<|jf jj<|jp<|vS<|vX jj<|jS (bNo jj)<|jm jj<|vY jj<|jg (bRe jj jj wm)<|uNt jj<|jgm jj<|jk<|jk<|jk<|jg (dE jj jj)<|vq jj<|jn ?_;refine jt jj<|vS<|vZ jj<|ji ?_;exact rtT rfl jj
   rw[decide_eq_false (key i hlt fun h=>by have h:=h.2;unfold iU at h;omega)]
   refine vS<|vLt jj<|vW jj<|vS<|vD jj hlt hq<|vR jj<|vA jj<|vP jj<|jn<|js<|vS<|vX jj<|vNt jj<|jm jj<|vY jj<|uNt jj<|vq jj<|jm jj<|jk<|jk<|jk<|vq jj<|jm jj<|jk<|jk<|jk<|vq jj<|jn<|jt jj<|vS<|vZ jj ?_;refine ji ?_;exact rtT rfl jj
  ·have hin:i=n:=oM
   subst hin;have hShp:Shp f i:=⟨hn,fun k hk=>(dX hsU hk).1,fun k hk=>(dX hsU hk).2.1⟩;have C1:=bZq En p f i hShp;have hGl:(aL f i).length≤i:=(kU _ _ _).1;have hGi:∀g∈aL f i,g.length≤i:=fun g hg=>mK g hg;have hGt:∀g∈aL f i,∀k∈g,k<i:=fun g hg=>lM g hg;have hGn:∀g∈aL f i,g≠[]:=fun g hg=>tH g hg;unfold cO at C1;unfold lD;have key2:∀k,k<(aL f i).length→¬grU f (aL f i) (k+1)→¬(shP p f i∧fuU f i∧grU f (aL f i) (aL f i).length):=fun k hk h h'=>h (fZj oM h'.2.2);have fin:grU f (aL f i) (aL f i).length→(shP p f i∧fuU f i∧grU f (aL f i) (aL f i).length):=fun h=>⟨hsh,hs,h⟩;unfold iA at C1;refine vS<|vLf jj<|vU jj<|js<|vS<|vL jj<|vC C1 ⟨jj,trivial⟩<|jE jj<|jm jj<|jn<|jb ?_;refine WpD.loop (α:={k:Nat//k≤(aL f i).length∧grU f (aL f i) k}) (fun k=>⟨[(1,.ptr 1 0),(54,.one (slc 1 ((aL f i).map gP) (aL f i).length)),(55,.one (i6 ((aL f i).length:Int))),(56,.one (i6 k.1))],[(1,[i6 p,slc 5 (rows (ccs f) i) i])]⟩) (fun k=>(aL f i).length-k.1) ⟨0,Nat.zero_le _,trivial⟩ ?_ ?_
   ·exact Sub.mk sJ sJ
   rintro⟨k,hk,hgr⟩;dsimp only at hk hgr ⊢
   by_cases hlk:k<(aL f i).length
   ·have hqG:=rD hlk
    have hmem:=mC [] hlk;have w2:=wS k oM;have n1:=hGi _ hmem;have n2:=hGt _ hmem;have n3:=hGn _ hmem;have key3:¬gOK f ((aL f i).getD k [])→¬(shP p f i∧fuU f i∧grU f (aL f i) (aL f i).length):=fun h=>key2 k hlk fun h'=>h h'.2;have fin3:gOK f ((aL f i).getD k [])→grU f (aL f i) (k+1):=fun h=>⟨hgr,h⟩;generalize(aL f i).getD k []=g at*;have hg0:0<g.length:=by cases g with|nil=>exact absurd rfl n3|cons=>simp
    unfold gP at hqG;refine vS<|vLt jj<|vW jj<|vS<|vD jj hlk hqG<|vT jj<|vZ jj<|vS<|vZ jj<|js<|vS<|jm jj<|jE jj<|jm jj<|jn<|jb ?_;refine WpD.loop (α:={j:Nat//j≤g.length∧gU f g j}) (fun j=>⟨[(1,.ptr 1 0),(6,.one (slc 1 (ixP g) g.length)),(7,.one (i6 (gsm f g j.1))),(54,.one (slc 1 ((aL f i).map gP) (aL f i).length)),(55,.one (i6 ((aL f i).length:Int))),(56,.one (i6 k)),(60,.one (slc 1 (ixP g) g.length)),(61,.one (i6 g.length)),(62,.one (i6 j.1))],[(1,[i6 p,slc 5 (rows (ccs f) i) i])]⟩) (fun j=>g.length-j.1) ⟨0,Nat.zero_le _,trivial⟩ ?_ ?_
    ·exact Sub.mk sJ sJ
    rintro⟨j,hj,hgu⟩;dsimp only at hj hgu ⊢;obtain⟨m1,m2⟩:=fZi hsU n2 hj
    by_cases hlj:j<g.length
    ·have hqi:=iG hlj
     have hm2:=mC 0 hlj;have hx:=n2 _ hm2;have hq:((rows (ccs f) i).drop (g.getD j 0*5)).take 5=coc (f (g.getD j 0)):=bE (bC f) hx;have hb:=dX hsU hx;have w3:IntKind.i64.wrap (gsm f g j+(f (g.getD j 0)).d)=gsm f g (j+1):=w64 oM oM;have w4:=wS j oM;have gstep:(0<j→(f (g.getD j 0)).y=0)→gU f g (j+1):=fun h=>⟨hgu,h⟩;have gfail:¬(0<j→(f (g.getD j 0)).y=0)→¬gU f g g.length:=fun h h'=>h (jZC (i:=j+1) oM h').2;generalize g.getD j 0=x at*
     by_cases j0:j=0
     ·have j0':¬((j:Int)>0):=oM
      refine vS<|vLt jj<|vW jj<|vS<|jm jj<|vD jj hlj hqi<|vT jj<|ja jj<|vZ jj<|vS<|jm jj<|vX jj<|jm jj<|vD jj hx hq<|jS (aI jj jj)<|vT jj<|vAd jj w3<|vZ jj<|vS<|jm jj<|vGf jj<|jm jj<|jk<|jk<|jk<|jk<|jk<|jk<|jk<|vQ jj<|jn ?_;refine jf jj<|jp<|jr<|vAd jj w4<|jm jj<|jn ?_;refine⟨⟨j+1,oM,gstep oM⟩,?_,oD⟩;exact Sub.mk sJ sJ
     ·have j0':(j:Int)>0:=oM
      by_cases y0:(f x).y=0
      ·refine vS<|vLt jj<|vW jj<|vS<|jm jj<|vD jj hlj hqi<|vT jj<|ja jj<|vZ jj<|vS<|jm jj<|vX jj<|jm jj<|vD jj hx hq<|jS (aI jj jj)<|vT jj<|vAd jj w3<|vZ jj<|vS<|jm jj<|vGt jj<|jm jj<|vY jj<|jgm jj<|jg (aK jj jj hx hq)<|jg (aI jj jj)<|jg (aZ jj jj)<|uNf jj<|vq jj<|jn ?_
       refine jf jj<|jp<|jr<|vAd jj w4<|jm jj<|jn ?_;refine⟨⟨j+1,oM,gstep (fun _=>y0)⟩,?_,oD⟩;exact Sub.mk sJ sJ
      ·rw[decide_eq_false (key3 fun h=>gfail (fun h'=>y0 (h' oM)) h.1)]
       refine vS<|vLt jj<|vW jj<|vS<|jm jj<|vD jj hlj hqi<|vT jj<|ja jj<|vZ jj<|vS<|jm jj<|vX jj<|jm jj<|vD jj hx hq<|jS (aI jj jj)<|vT jj<|vAd jj w3<|vZ jj<|vS<|jm jj<|vGt jj<|jm jj<|vY jj<|jgm jj<|jg (aK jj jj hx hq)<|jg (aI jj jj)<|jg (aZ jj jj)<|uNt jj<|vq jj<|jn ?_;refine jt jj<|vS<|vZ jj<|ji ?_;exact rtT rfl jj
    ·have hjn:j=g.length:=oM
     subst hjn;have hqi:=iG hg0;have hm2:=mC 0 hg0;have hx:=n2 _ hm2;have hq:((rows (ccs f) i).drop (g.getD 0 0*5)).take 5=coc (f (g.getD 0 0)):=bE (bC f) hx;have hfr:=gH hs hx;have hfr1:=hfr.2.1;have hfr2:=hfr.2.2.1;have w5:IntKind.i64.wrap ((f (g.getD 0 0)).y-gsm f g g.length)=(f (g.getD 0 0)).y-gsm f g g.length:=w64 oM oM
     by_cases par:((f (g.getD 0 0)).y-gsm f g g.length)%2=0
     ·have hok:gOK f g:=⟨hgu,par⟩
      have hm:(((f (g.getD 0 0)).y-gsm f g g.length).tmod 2 !=0)=false:=by rw[tm2];exact decide_eq_false (fun h=>h par)
      generalize g.getD 0 0=x at*;refine vS<|vLf jj<|vU jj<|vS<|vX jj<|jm jj<|jS (aK (i:=0) jj jj hg0 hqi)<|vT jj<|vD jj hx hq<|jS (aI jj jj)<|vT jj<|jm jj<|vSu jj w5<|jS (aY jj jj (fun w=>cR w _ _ _ _ _ _ aW))<|jS (bVn jj jj hm)<|jn<|jf jj<|jp<|jr<|vAd jj w2<|jm jj<|jn ?_;refine⟨⟨k+1,oM,fin3 hok⟩,?_,oD⟩;exact Sub.mk sJ sJ
     ·have hm:(((f (g.getD 0 0)).y-gsm f g g.length).tmod 2 !=0)=true:=by rw[tm2];exact decide_eq_true par
      rw[decide_eq_false (key3 fun h=>par h.2)];generalize g.getD 0 0=x at*;refine vS<|vLf jj<|vU jj<|vS<|vX jj<|jm jj<|jS (aK (i:=0) jj jj hg0 hqi)<|vT jj<|vD jj hx hq<|jS (aI jj jj)<|vT jj<|jm jj<|vSu jj w5<|jS (aY jj jj (fun w=>cR w _ _ _ _ _ _ aW))<|jS (bVn jj jj hm)<|jn<|jt jj<|vS<|vZ jj<|ji ?_;exact rtT rfl jj
   ·have hkn:k=(aL f i).length:=oM
    subst hkn;rw[decide_eq_true (fin hgr)];refine vS<|vLf jj<|vU jj<|vS<|vZ jj<|ji ?_;exact rtT rfl jj
 ·rw[decide_eq_false hsh] at C0
  rw[decide_eq_false (fun h:lD p f n=>hsh h.1)];refine aA Tryz.func166 rfl Tryz.ntmps166 rfl ?_;intro w0 h0;refine vS<|vB jj<|vZ jj<|js<|vS<|vL jj<|vC C0 ⟨jj,trivial⟩<|jS (bNo jj)<|jn<|jt jj<|vS<|vZ jj<|ji ?_;exact rtT rfl jj
theorem cZH(p:Int)(f:Nat→Co)(n:Nat)(hn:n≤1000)(hT:shP p f n):Fn PZ En 164 [cO p f n] (ex (.bool (decide (shP p f n)))):=by
 unfold cO
 by_cases hp:p=2
 ·by_cases hn0:n=0
  ·exact absurd hT (fun h=>h.2.1 hn0)
  ·have hn':((n:Nat):Int)≠0:=oM
   have key:∀i,i<n→¬shU f (i+1)→¬shP p f n:=fun i hi h h'=>h (xO oM h'.2.2);refine aA Tryz.func164 rfl Tryz.ntmps164 rfl ?_;intro w0 h0;refine vS<|vB jj<|vZ jj<|js<|vS<|vX jj<|vNf jj<|jm jj<|vY jj<|jg (dQ jj CSlice.ok)<|uEf jj<|vQ jj<|jn<|jf jj<|jp<|vS<|ja jj<|vZ jj<|js<|vS<|vX jj<|jE jj<|jm jj<|jn<|jb ?_;refine WpD.loop (α:={i:Nat//i≤n∧shU f i}) (fun i=>⟨[(3,.one (i6 (dJ f i.1))),(4,.one (i6 (iN f i.1))),(17,.one (slc 5 (rows (ccs f) n) n)),(18,.one (i6 n)),(19,.one (i6 i.1))],[]⟩) (fun i=>n-i.1) ⟨0,Nat.zero_le _,trivial⟩ ?_ ?_
   ·exact Sub.mk sJ sJ
   rintro⟨i,hi,hs⟩;dsimp only at hi hs ⊢;obtain⟨s1,s2,s3,s4⟩:=qS hs
   by_cases hlt:i<n
   ·have hq:((rows (ccs f) n).drop (i*5)).take 5=coc (f i):=bE (bC f) hlt
    have w1:=wS i oM;have w2:IntKind.i64.wrap (8-dJ f i)=8-dJ f i:=w64 oM oM
    by_cases c1:(f i).e≤iN f i
    ·exact absurd hT (key i hlt fun h=>by have:=h.2.1;omega)
    by_cases c2:(f i).e>60
    ·exact absurd hT (key i hlt fun h=>by have:=h.2.2.1;omega)
    by_cases c3:(f i).d<1
    ·exact absurd hT (key i hlt fun h=>by have:=h.2.2.2.1;omega)
    by_cases c4:(f i).d>8-dJ f i
    ·exact absurd hT (key i hlt fun h=>by have:=h.2.2.2.2;omega)
    have w3:IntKind.i64.wrap (dJ f i+(f i).d)=dJ f (i+1):=w64 oM oM;refine vS<|vLt jj<|vW jj<|vS<|vD jj hlt hq<|vR jj<|vA jj<|vP jj<|jn<|js<|vS<|vX jj<|jm jj<|vMf jj<|jm jj<|vY jj<|uGf jj<|vQ jj<|jm jj<|vY jj<|uLf jj<|vQ jj<|jm jj<|vY jj<|jgm jj<|jg (bSu jj jj w2)<|uGf jj<|vQ jj<|jn ?_;refine jf jj<|jp<|vS<|jm jj<|vX jj<|vAd jj w3<|vZ jj<|jr<|vX jj<|vZ jj<|jr<|vAd jj w1<|jm jj<|jn ?_;refine⟨⟨i+1,oM,hs,oM,oM,oM,oM⟩,?_,oD⟩;dsimp only;rw[yZ];exact Sub.mk sJ sJ
   ·have hin:i=n:=oM
    subst hin;rw[decide_eq_true (show shP p f i from⟨hp,hn0,hs⟩)]
    refine vS<|vLf jj<|vU jj<|vS<|vZ jj<|ji ?_;exact rtT rfl jj
 ·exact absurd hT (fun h=>hp h.1)
theorem lZb(p:Int)(f:Nat→Co)(n:Nat)(hn:n≤20)(hT:lD p f n):Fn PZ En 166 [cO p f n] (ex (.bool (decide (lD p f n)))):=by
 have C0:=cZH En p f n oM hT.1;unfold cO at*
 by_cases hsh:shP p f n
 ·rw[decide_eq_true hsh] at C0
  have key:∀i,i<n→¬fuU f (i+1)→¬lD p f n:=fun i hi h h'=>h (cZm oM h'.2.1);have hsU:=hsh.2.2;have hn8:=iZj hsU;refine aA Tryz.func166 rfl Tryz.ntmps166 rfl ?_;intro w0 h0;refine vS<|vB jj<|vZ jj<|js<|vS<|vL jj<|vC C0 ⟨jj,trivial⟩<|jS (bNo jj)<|jn<|jf jj<|jp<|js<|vS<|vX jj<|jE jj<|jm jj<|jn<|jb ?_;refine WpD.loop (α:={i:Nat//i≤n∧fuU f i}) (fun i=>⟨[(1,.ptr 1 0),(14,.one (slc 5 (rows (ccs f) n) n)),(15,.one (i6 n)),(16,.one (i6 i.1))],[(1,[i6 p,slc 5 (rows (ccs f) n) n])]⟩) (fun i=>n-i.1) ⟨0,Nat.zero_le _,trivial⟩ ?_ ?_
  ·exact Sub.mk sJ sJ
  rintro⟨i,hi,hs⟩;dsimp only at hi hs ⊢
  by_cases hlt:i<n
  ·have hq:((rows (ccs f) n).drop (i*5)).take 5=[ex (.int .i64 (f i).e),ex (.int .i64 (f i).d),ex (.int .i64 (f i).s),ex (.bool (f i).o),ex (.int .i64 (f i).y)]:=bE (bC f) hlt
   have hb:=dX hsU hlt;have w1:=wS i oM;have wm:(f i).d.tmod 2=(f i).d%2:=Int.tmod_eq_emod_of_nonneg oM
   by_cases s1:(f i).s=1
   ·skip
    by_cases y1:(f i).y<0
    ·exact absurd hT (key i hlt fun h=>by have h:=h.2;unfold iU at h;omega)
    by_cases y2:(f i).y>7
    ·exact absurd hT (key i hlt fun h=>by have h:=h.2;unfold iU at h;omega)
    cases ho:(f i).o with
    |true=>
     rw[ho] at hq;have hrow:iU (f i):=⟨oM,oM,oM,fun h=>by rw[ho] at h;cases h⟩
     refine vS<|vLt jj<|vW jj<|vS<|vD jj hlt hq<|vR jj<|vA jj<|vP jj<|jn<|js<|vS<|vX jj<|vNf jj<|jm jj<|jk<|jk<|jk<|vQ jj<|jm jj<|vY jj<|uLf jj<|vQ jj<|jm jj<|vY jj<|uGf jj<|vQ jj<|jn<|jf jj<|jp<|vS<|vX jj<|jS (bNo jj)<|jm jj<|jk<|jk<|jk<|jk<|jk<|ju<|ju<|ju<|jk<|vQ jj<|jn ?_;refine jf jj<|jp<|jr<|vAd jj w1<|jm jj<|jn ?_;refine⟨⟨i+1,oM,hs,hrow⟩,?_,oD⟩;exact Sub.mk sJ sJ
    |false=>
     rw[ho] at hq
     by_cases p1:(f i).d%2=0
     ·by_cases p2:(f i).y=0
      ·have hrow:iU (f i):=⟨oM,oM,oM,fun _=>⟨p1,p2⟩⟩
       refine vS<|vLt jj<|vW jj<|vS<|vD jj hlt hq<|vR jj<|vA jj<|vP jj<|jn<|js<|vS<|vX jj<|vNf jj<|jm jj<|jk<|jk<|jk<|vQ jj<|jm jj<|vY jj<|uLf jj<|vQ jj<|jm jj<|vY jj<|uGf jj<|vQ jj<|jn<|jf jj<|jp<|vS<|vX jj<|jS (bNo jj)<|jm jj<|vY jj<|jg (bRe jj jj wm)<|uNf jj<|jgm jj<|vY jj<|uNf jj<|jg (bZ jj jj)<|vq jj<|jn ?_;refine jf jj<|jp<|jr<|vAd jj w1<|jm jj<|jn ?_;refine⟨⟨i+1,oM,hs,hrow⟩,?_,oD⟩;exact Sub.mk sJ sJ
      ·exact absurd hT (key i hlt fun h=>by have h:=h.2;unfold iU at h;exact p2 (h.2.2.2 ho).2)
     ·exact absurd hT (key i hlt fun h=>by have h:=h.2;unfold iU at h;exact p1 (h.2.2.2 ho).1)
   by_cases s2:(f i).s= -1
   ·skip
    by_cases y1:(f i).y<0
    ·exact absurd hT (key i hlt fun h=>by have h:=h.2;unfold iU at h;omega)
    by_cases y2:(f i).y>7
    ·exact absurd hT (key i hlt fun h=>by have h:=h.2;unfold iU at h;omega)
    cases ho:(f i).o with
    |true=>
     rw[ho] at hq;have hrow:iU (f i):=⟨oM,oM,oM,fun h=>by rw[ho] at h;cases h⟩
     refine vS<|vLt jj<|vW jj<|vS<|vD jj hlt hq<|vR jj<|vA jj<|vP jj<|jn<|js<|vS<|vX jj<|vNt jj<|jm jj<|vY jj<|uNf jj<|vq jj<|jm jj<|vY jj<|uLf jj<|vQ jj<|jm jj<|vY jj<|uGf jj<|vQ jj<|jn<|jf jj<|jp<|vS<|vX jj<|jS (bNo jj)<|jm jj<|jk<|jk<|jk<|jk<|jk<|ju<|ju<|ju<|jk<|vQ jj<|jn ?_;refine jf jj<|jp<|jr<|vAd jj w1<|jm jj<|jn ?_;refine⟨⟨i+1,oM,hs,hrow⟩,?_,oD⟩;exact Sub.mk sJ sJ
    |false=>
     rw[ho] at hq
     by_cases p1:(f i).d%2=0
     ·by_cases p2:(f i).y=0
      ·have hrow:iU (f i):=⟨oM,oM,oM,fun _=>⟨p1,p2⟩⟩
       refine vS<|vLt jj<|vW jj<|vS<|vD jj hlt hq<|vR jj<|vA jj<|vP jj<|jn<|js<|vS<|vX jj<|vNt jj<|jm jj<|vY jj<|uNf jj<|vq jj<|jm jj<|vY jj<|uLf jj<|vQ jj<|jm jj<|vY jj<|uGf jj<|vQ jj<|jn<|jf jj<|jp<|vS<|vX jj<|jS (bNo jj)<|jm jj<|vY jj<|jg (bRe jj jj wm)<|uNf jj<|jgm jj<|vY jj<|uNf jj<|jg (bZ jj jj)<|vq jj<|jn ?_;refine jf jj<|jp<|jr<|vAd jj w1<|jm jj<|jn ?_;refine⟨⟨i+1,oM,hs,hrow⟩,?_,oD⟩;exact Sub.mk sJ sJ
      ·exact absurd hT (key i hlt fun h=>by have h:=h.2;unfold iU at h;exact p2 (h.2.2.2 ho).2)
     ·exact absurd hT (key i hlt fun h=>by have h:=h.2;unfold iU at h;exact p1 (h.2.2.2 ho).1)
   exact absurd hT (key i hlt fun h=>by have h:=h.2;unfold iU at h;omega)
  ·have hin:i=n:=oM
   subst hin;have hShp:Shp f i:=⟨hn,fun k hk=>(dX hsU hk).1,fun k hk=>(dX hsU hk).2.1⟩;have C1:=bZq En p f i hShp;have hGl:(aL f i).length≤i:=(kU _ _ _).1;have hGi:∀g∈aL f i,g.length≤i:=fun g hg=>mK g hg;have hGt:∀g∈aL f i,∀k∈g,k<i:=fun g hg=>lM g hg;have hGn:∀g∈aL f i,g≠[]:=fun g hg=>tH g hg;unfold cO at C1;unfold lD;have key2:∀k,k<(aL f i).length→¬grU f (aL f i) (k+1)→¬(shP p f i∧fuU f i∧grU f (aL f i) (aL f i).length):=fun k hk h h'=>h (fZj oM h'.2.2);have fin:grU f (aL f i) (aL f i).length→(shP p f i∧fuU f i∧grU f (aL f i) (aL f i).length):=fun h=>⟨hsh,hs,h⟩;unfold iA at C1;refine vS<|vLf jj<|vU jj<|js<|vS<|vL jj<|vC C1 ⟨jj,trivial⟩<|jE jj<|jm jj<|jn<|jb ?_;refine WpD.loop (α:={k:Nat//k≤(aL f i).length∧grU f (aL f i) k}) (fun k=>⟨[(1,.ptr 1 0),(54,.one (slc 1 ((aL f i).map gP) (aL f i).length)),(55,.one (i6 ((aL f i).length:Int))),(56,.one (i6 k.1))],[(1,[i6 p,slc 5 (rows (ccs f) i) i])]⟩) (fun k=>(aL f i).length-k.1) ⟨0,Nat.zero_le _,trivial⟩ ?_ ?_
   ·exact Sub.mk sJ sJ
   rintro⟨k,hk,hgr⟩;dsimp only at hk hgr ⊢
   by_cases hlk:k<(aL f i).length
   ·have hqG:=rD hlk
    have hmem:=mC [] hlk;have w2:=wS k oM;have n1:=hGi _ hmem;have n2:=hGt _ hmem;have n3:=hGn _ hmem;have key3:¬gOK f ((aL f i).getD k [])→¬(shP p f i∧fuU f i∧grU f (aL f i) (aL f i).length):=fun h=>key2 k hlk fun h'=>h h'.2;have fin3:gOK f ((aL f i).getD k [])→grU f (aL f i) (k+1):=fun h=>⟨hgr,h⟩;generalize(aL f i).getD k []=g at*;have hg0:0<g.length:=by cases g with|nil=>exact absurd rfl n3|cons=>simp
    unfold gP at hqG;refine vS<|vLt jj<|vW jj<|vS<|vD jj hlk hqG<|vT jj<|vZ jj<|vS<|vZ jj<|js<|vS<|jm jj<|jE jj<|jm jj<|jn<|jb ?_;refine WpD.loop (α:={j:Nat//j≤g.length∧gU f g j}) (fun j=>⟨[(1,.ptr 1 0),(6,.one (slc 1 (ixP g) g.length)),(7,.one (i6 (gsm f g j.1))),(54,.one (slc 1 ((aL f i).map gP) (aL f i).length)),(55,.one (i6 ((aL f i).length:Int))),(56,.one (i6 k)),(60,.one (slc 1 (ixP g) g.length)),(61,.one (i6 g.length)),(62,.one (i6 j.1))],[(1,[i6 p,slc 5 (rows (ccs f) i) i])]⟩) (fun j=>g.length-j.1) ⟨0,Nat.zero_le _,trivial⟩ ?_ ?_
    ·exact Sub.mk sJ sJ
    rintro⟨j,hj,hgu⟩;dsimp only at hj hgu ⊢;obtain⟨m1,m2⟩:=fZi hsU n2 hj
    by_cases hlj:j<g.length
    ·have hqi:=iG hlj
     have hm2:=mC 0 hlj;have hx:=n2 _ hm2;have hq:((rows (ccs f) i).drop (g.getD j 0*5)).take 5=coc (f (g.getD j 0)):=bE (bC f) hx;have hb:=dX hsU hx;have w3:IntKind.i64.wrap (gsm f g j+(f (g.getD j 0)).d)=gsm f g (j+1):=w64 oM oM;have w4:=wS j oM;have gstep:(0<j→(f (g.getD j 0)).y=0)→gU f g (j+1):=fun h=>⟨hgu,h⟩;have gfail:¬(0<j→(f (g.getD j 0)).y=0)→¬gU f g g.length:=fun h h'=>h (jZC (i:=j+1) oM h').2;generalize g.getD j 0=x at*
     by_cases j0:j=0
     ·have j0':¬((j:Int)>0):=oM
      refine vS<|vLt jj<|vW jj<|vS<|jm jj<|vD jj hlj hqi<|vT jj<|ja jj<|vZ jj<|vS<|jm jj<|vX jj<|jm jj<|vD jj hx hq<|jS (aI jj jj)<|vT jj<|vAd jj w3<|vZ jj<|vS<|jm jj<|vGf jj<|jm jj<|jk<|jk<|jk<|jk<|jk<|jk<|jk<|vQ jj<|jn ?_;refine jf jj<|jp<|jr<|vAd jj w4<|jm jj<|jn ?_;refine⟨⟨j+1,oM,gstep oM⟩,?_,oD⟩;exact Sub.mk sJ sJ
     ·have j0':(j:Int)>0:=oM
      by_cases y0:(f x).y=0
      ·refine vS<|vLt jj<|vW jj<|vS<|jm jj<|vD jj hlj hqi<|vT jj<|ja jj<|vZ jj<|vS<|jm jj<|vX jj<|jm jj<|vD jj hx hq<|jS (aI jj jj)<|vT jj<|vAd jj w3<|vZ jj<|vS<|jm jj<|vGt jj<|jm jj<|vY jj<|jgm jj<|jg (aK jj jj hx hq)<|jg (aI jj jj)<|jg (aZ jj jj)<|uNf jj<|vq jj<|jn ?_
       refine jf jj<|jp<|jr<|vAd jj w4<|jm jj<|jn ?_;refine⟨⟨j+1,oM,gstep (fun _=>y0)⟩,?_,oD⟩;exact Sub.mk sJ sJ
      ·exact absurd hT (key3 fun h=>gfail (fun h'=>y0 (h' oM)) h.1)
    ·have hjn:j=g.length:=oM
     subst hjn;have hqi:=iG hg0;have hm2:=mC 0 hg0;have hx:=n2 _ hm2;have hq:((rows (ccs f) i).drop (g.getD 0 0*5)).take 5=coc (f (g.getD 0 0)):=bE (bC f) hx;have hfr:=gH hs hx;have hfr1:=hfr.2.1;have hfr2:=hfr.2.2.1;have w5:IntKind.i64.wrap ((f (g.getD 0 0)).y-gsm f g g.length)=(f (g.getD 0 0)).y-gsm f g g.length:=w64 oM oM
     by_cases par:((f (g.getD 0 0)).y-gsm f g g.length)%2=0
     ·have hok:gOK f g:=⟨hgu,par⟩
      have hm:(((f (g.getD 0 0)).y-gsm f g g.length).tmod 2 !=0)=false:=by rw[tm2];exact decide_eq_false (fun h=>h par)
      generalize g.getD 0 0=x at*;refine vS<|vLf jj<|vU jj<|vS<|vX jj<|jm jj<|jS (aK (i:=0) jj jj hg0 hqi)<|vT jj<|vD jj hx hq<|jS (aI jj jj)<|vT jj<|jm jj<|vSu jj w5<|jS (aY jj jj (fun w=>cR w _ _ _ _ _ _ aW))<|jS (bVn jj jj hm)<|jn<|jf jj<|jp<|jr<|vAd jj w2<|jm jj<|jn ?_;refine⟨⟨k+1,oM,fin3 hok⟩,?_,oD⟩;exact Sub.mk sJ sJ
     ·have hm:(((f (g.getD 0 0)).y-gsm f g g.length).tmod 2 !=0)=true:=by rw[tm2];exact decide_eq_true par
      exact absurd hT (key3 fun h=>par h.2)
   ·have hkn:k=(aL f i).length:=oM
    subst hkn;rw[decide_eq_true (fin hgr)];refine vS<|vLf jj<|vU jj<|vS<|vZ jj<|ji ?_;exact rtT rfl jj
 ·rw[decide_eq_false hsh] at C0
  exact absurd hT (fun h:lD p f n=>hsh h.1)
end
end
section
open Go.RowKit Limb Det Num
def csU(E:Nat→Nat)(U:Nat→Co→Co):Nat→CS
 |0=>(fun _=>⟨0,0,1,false,0⟩,0)
 |i+1=>(cU (cs1 (E i) (csU E U i)).1 ((cs1 (E i) (csU E U i)).2-1) (U i ((cs1 (E i) (csU E U i)).1 ((cs1 (E i) (csU E U i)).2-1))),(cs1 (E i) (csU E U i)).2)
theorem nZJ(E:Nat→Nat)(a:Nat→Int)(p:Nat):∀i,csF E a p i=csU E (fun i c=>⟨c.e,c.d+1,c.s*fG (a i) p,c.o,c.y⟩) i
 |0=>rfl
 |i+1=>by
  show cs2 (fG (a i) p) (cs1 (E i) (csF E a p i))=_
  rw[nZJ E a p i];rfl
theorem nZK(B:Nat→Bk):∀i,csB B i=csU (fun i=>(B i).e) (fun i=>bG (B i)) i
 |0=>rfl
 |i+1=>by
  show csE (B i) (cs1 (B i).e (csB B i))=_
  rw[nZK B i];rfl
def des(f:Nat→Co):Nat→Int
 |0=>0
 |i+1=>des f i+(f i).d*(f i).e
def pD(f:Nat→Int):Nat→Int
 |0=>0
 |i+1=>pD f i+f i
theorem rH{f g:Nat→Co}:∀{n:Nat},(∀i,i<n→f i=g i)→dJ f n=dJ g n
 |0,_=>rfl
 |n+1,h=>by rw[dJ,dJ,rH fun i hi=>h i oM,h n oM]
theorem uQ{f g:Nat→Co}:∀{n:Nat},(∀i,i<n→f i=g i)→des f n=des g n
 |0,_=>rfl
 |n+1,h=>by rw[des,des,uQ fun i hi=>h i oM,h n oM]
structure Fold(E:Nat→Nat)(δ:Nat→Int)(Q:Co→Prop)(i:Nat)(z:CS):Prop where
 c0:z.2≤i
 c1:0<i→0<z.2∧(z.1 (z.2-1)).e=(E (i-1):Int)
 up:∀j,j+1<z.2→(z.1 j).e<(z.1 (j+1)).e
 e0:∀j,j<z.2→∃t,t<i∧(z.1 j).e=(E t:Int)
 q:∀j,j<z.2→Q (z.1 j)
 sd:dJ z.1 z.2=pD δ i
 se:des z.1 z.2=pD (fun t=>δ t*(E t:Int)) i
theorem fold{E:Nat→Nat}{δ:Nat→Int}{U:Nat→Co→Co}{Q:Co→Prop}:∀{i:Nat},(∀t,t+1<i→E t≤E (t+1))→(∀t c,t<i→(U t c).e=c.e∧(U t c).d=c.d+δ t)→(∀t c,t<i→Q c∨c=⟨(E t:Int),0,1,false,0⟩→Q (U t c))→Fold E δ Q i (csU E U i)
 |0,_,_,_=>⟨Nat.le_refl 0,fun h=>absurd h oM,fun j hj=>absurd hj (by show ¬j+1<0;omega),fun j hj=>absurd hj (by show ¬j<0;omega),fun j hj=>absurd hj (by show ¬j<0;omega),rfl,rfl⟩
 |i+1,hE,hU,hQ=>by
  obtain⟨f0,f1,f2,f3,f4,f5,f6⟩:=fold (i:=i) (fun t ht=>hE t oM) (fun t c ht=>hU t c oM) (fun t c ht=>hQ t c oM);rw[csU];generalize csU E U i=z at*;obtain⟨g,c⟩:=z;dsimp only at f0 f1 f2 f3 f4 f5 f6
  by_cases h:c=0∨(g (c-1)).e≠(E i:Int)
  ·have hc:cs1 (E i) (g,c)=(cU g c ⟨(E i:Int),0,1,false,0⟩,c+1):=if_pos h
   rw[hc];dsimp only;rw[Nat.add_sub_cancel,jW,eZc];obtain⟨u1,u2⟩:=hU i ⟨(E i:Int),0,1,false,0⟩ oM;have u3:=hQ i ⟨(E i:Int),0,1,false,0⟩ oM (.inr rfl);generalize U i ⟨(E i:Int),0,1,false,0⟩=w at*;dsimp only at u1 u2;refine⟨by dsimp only;omega,fun _=>⟨Nat.succ_pos _,?_⟩,fun j hj=>?_,fun j hj=>?_,fun j hj=>?_,?_,?_⟩
   ·dsimp only;rw[Nat.add_sub_cancel,Nat.add_sub_cancel,jW];exact u1
   ·dsimp only at hj ⊢
    rw[mJ _ _ oM]
    by_cases e:j+1=c
    ·rw[e,jW,u1,show j=c-1 by omega]
     obtain⟨k1,k2⟩:=f1 oM;have k3:=hE (i-1) oM;rw[show i-1+1=i by omega] at k3
     have k4:(g (c-1)).e≠(E i:Int):=by
      rcases h with h|h
      ·omega
      ·exact h
     omega
    ·rw[mJ _ _ e];exact f2 j oM
   ·dsimp only at hj ⊢
    by_cases e:j=c
    ·rw[e,jW];exact⟨i,oM,u1⟩
    ·rw[mJ _ _ e]
     obtain⟨t,t1,t2⟩:=f3 j oM;exact⟨t,oM,t2⟩
   ·dsimp only at hj ⊢
    by_cases e:j=c
    ·rw[e,jW];exact u3
    ·rw[mJ _ _ e];exact f4 j oM
   ·dsimp only
    rw[dJ,jW,rH (g:=g) fun j hj=>mJ _ _ oM,f5,pD,u2];omega
   ·dsimp only
    rw[des,jW,uQ (g:=g) fun j hj=>mJ _ _ oM,f6,pD,u1,u2,Int.zero_add]
  ·have hc:cs1 (E i) (g,c)=(g,c):=if_neg h
   rw[hc];dsimp only;have h1:c≠0:=fun h'=>h (.inl h');have h2:(g (c-1)).e=(E i:Int):=by
    by_cases h':(g (c-1)).e=(E i:Int)
    ·exact h'
    ·exact absurd (.inr h') h
   obtain⟨k,rfl⟩:∃k,c=k+1:=⟨c-1,oM⟩;rw[Nat.add_sub_cancel] at*;obtain⟨u1,u2⟩:=hU i (g k) oM;have u3:=hQ i (g k) oM (.inl (f4 k oM));generalize U i (g k)=w at*;refine⟨by dsimp only;omega,fun _=>⟨Nat.succ_pos _,?_⟩,fun j hj=>?_,fun j hj=>?_,fun j hj=>?_,?_,?_⟩
   ·dsimp only;rw[Nat.add_sub_cancel,Nat.add_sub_cancel,jW,u1];exact h2
   ·dsimp only at hj ⊢
    rw[mJ _ _ oM]
    by_cases e:j+1=k
    ·rw[e,jW,u1,←e];exact f2 j oM
    ·rw[mJ _ _ e];exact f2 j oM
   ·dsimp only at hj ⊢
    by_cases e:j=k
    ·rw[e,jW];exact⟨i,oM,u1.trans h2⟩
    ·rw[mJ _ _ e]
     obtain⟨t,t1,t2⟩:=f3 j oM;exact⟨t,oM,t2⟩
   ·dsimp only at hj ⊢
    by_cases e:j=k
    ·rw[e,jW];exact u3
    ·rw[mJ _ _ e];exact f4 j oM
   ·dsimp only
    rw[dJ] at f5;rw[dJ,jW,rH (g:=g) fun j hj=>mJ _ _ oM,pD,u2,←f5];omega
   ·dsimp only
    rw[des] at f6;rw[des,jW,uQ (g:=g) fun j hj=>mJ _ _ oM,pD,u1,u2,←f6,←h2,Int.add_mul];omega
theorem qE{f:Nat→Co}:∀{n i:Nat},(∀j,j<n→1≤(f j).d)→i≤n→dJ f i≤dJ f n
 |0,i,_,h=>by rw[show i=0 by omega];exact Int.le_refl _
 |n+1,i,hd,h=>by
  by_cases e:i=n+1
  ·rw[e];exact Int.le_refl _
  ·have h1:=qE (n:=n) (i:=i) (fun j hj=>hd j oM) oM
   have h2:=hd n oM;rw[dJ];omega
theorem nZ1{f:Nat→Co}{c:Nat}(h0:∀j,j<c→0≤(f j).e∧(f j).e≤60)(hup:∀j,j+1<c→(f j).e<(f (j+1)).e)(hd:∀j,j<c→1≤(f j).d)(hs:dJ f c≤8):∀{i:Nat},i≤c→shU f i
 |0,_=>trivial
 |i+1,h=>by
  have e0:=h0 i oM;have hm:=qE hd (show i+1≤c from h)
  rw[dJ] at hm;refine⟨nZ1 h0 hup hd hs oM,?_,e0.2,hd i oM,oM⟩;unfold iN;split
  ·omega
  ·rename_i hi
   have:=hup (i-1) oM;rw[show i-1+1=i by omega] at this
   exact this
theorem fZo(f:Nat→Co)(j:Nat):∀i,crI f j i=(f j).d*((f j).e*dJ f i-des f i)
 |0=>by rw[crI,dJ,des];simp
 |i+1=>by rw[crI,fZo f j i,dJ,des];grind
theorem gZ4(f:Nat→Co):∀n,∃t:Int,crH f n=(dJ f n-1)*des f n+2*t
 |0=>⟨0,by rw[crH,des];simp⟩
 |n+1=>by
  obtain⟨t,ht⟩:=gZ4 f n;rw[crH,fZo,ht,dJ,des];generalize dJ f n=N;generalize des f n=V;generalize(f n).e=e;generalize(f n).d=d;obtain⟨h,hh⟩:∃h:Int,d*(d-1)=2*h:=by
   rcases Int.emod_two_eq d with h|h
   ·obtain⟨x,hx⟩:∃x,d=2*x:=⟨d/2,oM⟩
    exact⟨x*(d-1),by rw[hx];grind⟩
   ·obtain⟨x,hx⟩:∃x,d-1=2*x:=⟨(d-1)/2,oM⟩
    exact⟨d*x,by rw[hx];grind⟩
  exact⟨t-d*V-e*h,by grind⟩
theorem pZ0(f:Nat→Co){n:Nat}:(∀j,j<n→0≤(f j).d∧0≤(f j).e)→0≤dJ f n∧0≤des f n∧crH f n≤dJ f n*des f n:=by
 induction n with
 |zero=>intro _;exact⟨Int.le_refl 0,Int.le_refl 0,by show(0:Int)≤0*0;omega⟩
 |succ n ih=>
  intro h;obtain⟨h1,h2,h3⟩:=ih fun j hj=>h j oM;obtain⟨h4,h5⟩:=h n oM;rw[crH,fZo,dJ,des];generalize dJ f n=N at*;generalize des f n=V at*;generalize crH f n=H at*;generalize(f n).e=e at*;generalize(f n).d=d at*;have k1:=Int.mul_nonneg h4 h5;have k2:=Int.mul_nonneg h4 h2;have k3:=Int.mul_nonneg h4 k1;refine⟨oM,oM,?_⟩;have e1:(N+d)*(V+d*e)=N*V+d*(e*N)+d*V+d*(d*e):=by grind
  have e2:d*(e*N-V)=d*(e*N)-d*V:=by grind
  rw[e1,e2];omega
end
section
open Go.RowKit Limb Num
def bR(c:Co):Prop:=0≤c.e∧c.e≤60∧1≤c.d∧c.d≤8∧(c.s=1∨c.s= -1)∧0≤c.y∧c.y≤7∧
 (if c.o=true then(c.y-c.d)%2=0∧(c.d=1∧c.s=1→c.y=1∨c.y=7)∧(c.d=1∧c.s= -1→c.y=3∨c.y=5)∧(c.d=2∧c.s=1→c.y≠4)∧(c.d=2∧c.s= -1→c.y≠0) else c.d%2=0∧c.y=0)
instance(c:Co):Decidable (bR c):=by unfold bR;infer_instance
theorem hZs(e d s y:Int)(o:Bool)(w:World):
  Calls Tryz.prog 165 #[.agg #[.int .i64 e,.int .i64 d,.int .i64 s,.bool o,.int .i64 y]] w fun r w'=>r= .returned (.bool (decide (bR ⟨e,d,s,o,y⟩)))∧Below w.heap.size w w':=by
 by_cases h1:e<0
 ·have HD:=Lib.hid (show decide (bR ⟨e,d,s,o,y⟩)=false from decide_eq_false (by unfold bR;dsimp only;omega))
  go_enter Tryz.func165,Tryz.ntmps165
  go_wp2_with fail
  go_ret
  exact lH
 by_cases h2:60<e
 ·have HD:=Lib.hid (show decide (bR ⟨e,d,s,o,y⟩)=false from decide_eq_false (by unfold bR;dsimp only;omega))
  go_enter Tryz.func165,Tryz.ntmps165
  go_wp2_with fail
  go_ret
  exact lH
 by_cases h3:d<1
 ·have HD:=Lib.hid (show decide (bR ⟨e,d,s,o,y⟩)=false from decide_eq_false (by unfold bR;dsimp only;omega))
  go_enter Tryz.func165,Tryz.ntmps165
  go_wp2_with fail
  go_ret
  exact lH
 by_cases h4:8<d
 ·have HD:=Lib.hid (show decide (bR ⟨e,d,s,o,y⟩)=false from decide_eq_false (by unfold bR;dsimp only;omega))
  go_enter Tryz.func165,Tryz.ntmps165
  go_wp2_with fail
  go_ret
  exact lH
 have hs:s=1∨s= -1∨(s≠1∧s≠-1):=oM;rcases hs with rfl|rfl|⟨s1,s2⟩
 ·by_cases h5:y<0
  ·have HD:=Lib.hid (show decide (bR ⟨e,d,1,o,y⟩)=false from decide_eq_false (by unfold bR;dsimp only;omega))
   go_enter Tryz.func165,Tryz.ntmps165
   go_wp2_with fail
   go_ret
   exact lH
  by_cases h6:7<y
  ·have HD:=Lib.hid (show decide (bR ⟨e,d,1,o,y⟩)=false from decide_eq_false (by unfold bR;dsimp only;omega))
   go_enter Tryz.func165,Tryz.ntmps165
   go_wp2_with fail
   go_ret
   exact lH
  cases o with
  |false=>
   by_cases p:d%2=0
   ·have hp:(d.tmod 2==0)=true:=by rw[Int.tmod_eq_emod_of_nonneg oM,p];rfl
    by_cases q:y=0
    ·subst q
     have HD:=Lib.hid (show decide (bR ⟨e,d,1,false,0⟩)=true from decide_eq_true (by unfold bR;simp<;>omega))
     go_enter Tryz.func165,Tryz.ntmps165
     go_wp2_with fail
     go_ret
     exact lH
    have HD:=Lib.hid (show decide (bR ⟨e,d,1,false,y⟩)=false from decide_eq_false (by unfold bR;simp<;>omega))
    go_enter Tryz.func165,Tryz.ntmps165
    go_wp2_with fail
    go_ret
    exact lH
   ·have hp:(d.tmod 2==0)=false:=by rw[Int.tmod_eq_emod_of_nonneg oM];exact beq_eq_false_iff_ne.2 p
    have HD:=Lib.hid (show decide (bR ⟨e,d,1,false,y⟩)=false from decide_eq_false (by unfold bR;simp<;>omega))
    go_enter Tryz.func165,Tryz.ntmps165
    go_wp2_with fail
    go_ret
    exact lH
  |true=>
   by_cases p:(y-d)%2=0
   ·have hp:((y-d).tmod 2 !=0)=false:=by rw[tm2];exact decide_eq_false (fun h=>h p)
    by_cases d1:d=1
    ·subst d1
     by_cases y1:y=1
     ·subst y1
      have HD:=Lib.hid (show decide (bR ⟨e,1,1,true,1⟩)=true from decide_eq_true (by unfold bR;simp<;>omega))
      go_enter Tryz.func165,Tryz.ntmps165
      go_wp2_with fail
      go_ret
      exact lH
     by_cases y7:y=7
     ·subst y7
      have HD:=Lib.hid (show decide (bR ⟨e,1,1,true,7⟩)=true from decide_eq_true (by unfold bR;simp<;>omega))
      go_enter Tryz.func165,Tryz.ntmps165
      go_wp2_with fail
      go_ret
      exact lH
     have HD:=Lib.hid (show decide (bR ⟨e,1,1,true,y⟩)=false from decide_eq_false (by unfold bR;simp<;>omega))
     go_enter Tryz.func165,Tryz.ntmps165
     go_wp2_with fail
     go_ret
     exact lH
    by_cases d2:d=2
    ·subst d2
     by_cases y4:y=4
     ·subst y4
      have HD:=Lib.hid (show decide (bR ⟨e,2,1,true,4⟩)=false from decide_eq_false (by unfold bR;simp<;>omega))
      go_enter Tryz.func165,Tryz.ntmps165
      go_wp2_with fail
      go_ret
      exact lH
     have HD:=Lib.hid (show decide (bR ⟨e,2,1,true,y⟩)=true from decide_eq_true (by unfold bR;simp<;>omega))
     go_enter Tryz.func165,Tryz.ntmps165
     go_wp2_with fail
     go_ret
     exact lH
    have HD:=Lib.hid (show decide (bR ⟨e,d,1,true,y⟩)=true from decide_eq_true (by unfold bR;simp<;>omega))
    go_enter Tryz.func165,Tryz.ntmps165
    go_wp2_with fail
    go_ret
    exact lH
   ·have hp:((y-d).tmod 2 !=0)=true:=by rw[tm2];exact decide_eq_true p
    have HD:=Lib.hid (show decide (bR ⟨e,d,1,true,y⟩)=false from decide_eq_false (by unfold bR;simp<;>omega))
    go_enter Tryz.func165,Tryz.ntmps165
    go_wp2_with fail
    go_ret
    exact lH
 ·by_cases h5:y<0
  ·have HD:=Lib.hid (show decide (bR ⟨e,d,(-1),o,y⟩)=false from decide_eq_false (by unfold bR;dsimp only;omega))
   go_enter Tryz.func165,Tryz.ntmps165
   go_wp2_with fail
   go_ret
   exact lH
  by_cases h6:7<y
  ·have HD:=Lib.hid (show decide (bR ⟨e,d,(-1),o,y⟩)=false from decide_eq_false (by unfold bR;dsimp only;omega))
   go_enter Tryz.func165,Tryz.ntmps165
   go_wp2_with fail
   go_ret
   exact lH
  cases o with
  |false=>
   by_cases p:d%2=0
   ·have hp:(d.tmod 2==0)=true:=by rw[Int.tmod_eq_emod_of_nonneg oM,p];rfl
    by_cases q:y=0
    ·subst q
     have HD:=Lib.hid (show decide (bR ⟨e,d,(-1),false,0⟩)=true from decide_eq_true (by unfold bR;simp<;>omega))
     go_enter Tryz.func165,Tryz.ntmps165
     go_wp2_with fail
     go_ret
     exact lH
    have HD:=Lib.hid (show decide (bR ⟨e,d,(-1),false,y⟩)=false from decide_eq_false (by unfold bR;simp<;>omega))
    go_enter Tryz.func165,Tryz.ntmps165
    go_wp2_with fail
    go_ret
    exact lH
   ·have hp:(d.tmod 2==0)=false:=by rw[Int.tmod_eq_emod_of_nonneg oM];exact beq_eq_false_iff_ne.2 p
    have HD:=Lib.hid (show decide (bR ⟨e,d,(-1),false,y⟩)=false from decide_eq_false (by unfold bR;simp<;>omega))
    go_enter Tryz.func165,Tryz.ntmps165
    go_wp2_with fail
    go_ret
    exact lH
  |true=>
   by_cases p:(y-d)%2=0
   ·have hp:((y-d).tmod 2 !=0)=false:=by rw[tm2];exact decide_eq_false (fun h=>h p)
    by_cases d1:d=1
    ·subst d1
     by_cases y1:y=3
     ·subst y1
      have HD:=Lib.hid (show decide (bR ⟨e,1,(-1),true,3⟩)=true from decide_eq_true (by unfold bR;simp<;>omega))
      go_enter Tryz.func165,Tryz.ntmps165
      go_wp2_with fail
      go_ret
      exact lH
     by_cases y7:y=5
     ·subst y7
      have HD:=Lib.hid (show decide (bR ⟨e,1,(-1),true,5⟩)=true from decide_eq_true (by unfold bR;simp<;>omega))
      go_enter Tryz.func165,Tryz.ntmps165
      go_wp2_with fail
      go_ret
      exact lH
     have HD:=Lib.hid (show decide (bR ⟨e,1,(-1),true,y⟩)=false from decide_eq_false (by unfold bR;simp<;>omega))
     go_enter Tryz.func165,Tryz.ntmps165
     go_wp2_with fail
     go_ret
     exact lH
    by_cases d2:d=2
    ·subst d2
     by_cases y4:y=0
     ·subst y4
      have HD:=Lib.hid (show decide (bR ⟨e,2,(-1),true,0⟩)=false from decide_eq_false (by unfold bR;simp<;>omega))
      go_enter Tryz.func165,Tryz.ntmps165
      go_wp2_with fail
      go_ret
      exact lH
     have HD:=Lib.hid (show decide (bR ⟨e,2,(-1),true,y⟩)=true from decide_eq_true (by unfold bR;simp<;>omega))
     go_enter Tryz.func165,Tryz.ntmps165
     go_wp2_with fail
     go_ret
     exact lH
    have HD:=Lib.hid (show decide (bR ⟨e,d,(-1),true,y⟩)=true from decide_eq_true (by unfold bR;simp<;>omega))
    go_enter Tryz.func165,Tryz.ntmps165
    go_wp2_with fail
    go_ret
    exact lH
   ·have hp:((y-d).tmod 2 !=0)=true:=by rw[tm2];exact decide_eq_true p
    have HD:=Lib.hid (show decide (bR ⟨e,d,(-1),true,y⟩)=false from decide_eq_false (by unfold bR;simp<;>omega))
    go_enter Tryz.func165,Tryz.ntmps165
    go_wp2_with fail
    go_ret
    exact lH
 ·have HD:=Lib.hid (show decide (bR ⟨e,d,s,o,y⟩)=false from decide_eq_false (by unfold bR;dsimp only;omega))
  go_enter Tryz.func165,Tryz.ntmps165
  go_wp2_with fail
  go_ret
  exact lH
section
variable(En:Ev)
theorem eZ4(c:Co):Fn PZ En 165 [cD (coc c)] (ex (.bool (decide (bR c)))):=by
 obtain⟨e,d,s,o,y⟩:=c;rintro h w vs _ hh hv;obtain⟨v,rfl,us,rfl,ha⟩:=hv.one;match us,ha with
 |[_,_,_,_,_],⟨rfl,_,rfl,_,rfl,_,rfl,_,rfl,_,_⟩=>exact(hZs e d s y o w).mono fun _ _ ⟨he,hb⟩=>by subst he;exact jR hh hb rfl
end
end
section
open Go.RowKit Limb Num
instance kb186:CBody PZ 186:=cB Tryz.func186
instance kb187:CBody PZ 187:=cB Tryz.func187
instance kb168:CBody PZ 168:=cB Tryz.func168
instance carr_b8:CArr Tryz.prog 223 8 4 1:=⟨Tryz.underlying223,by kernel_rfl⟩
instance crow_b8:CRow Tryz.prog 223 8:=⟨⟨_,Tryz.underlying223,rfl,by kernel_rfl⟩⟩
theorem kZM:gR Tryz.prog 223 [.bool false,.bool false,.bool false,.bool false,.bool false,.bool false,.bool false,.bool false]:=⟨by kernel_rfl,by simp[Value.oneCell']⟩
instance qZf:CZero Tryz.prog 223 [.bool false,.bool false,.bool false,.bool false,.bool false,.bool false,.bool false,.bool false]:=⟨kZM⟩
instance c1_any:C1 jC:=⟨fun _ _ h=>h⟩
section
variable{P:Program}{En:Ev}{n:Nat}{sl:Sl}{bx:Bx}{dst:Option Tmp}{ty:TypeId}{pos:String}{after:Array Edge}{guard:Option (Nat×Bool)}
theorem tX{T E:TypeId}{x ix:Operand}{len:Nat}{ps:List Pd}{q:Pd}{kk:IntKind}{i:Nat}[hT:CArr P T len E 1][hE:COne P E](hx:osd sl x=some (.one (cD ps)))(hi:osd sl ix=some (.one (ex (.int kk (i:Int)))))(hy:i<len)(hq:ps[i]? =some q):
  RT P En n ⟨dst,.index T x ix,ty,pos,after,guard⟩ sl bx ⟨.one q,[],[]⟩:=
 RT.pure fun ρ h β bx' H=>by
  obtain⟨vs,h1,h2⟩:(cD ps).p h (ρ x):=(H x (by simp[Op.operands]) _ hx).1
  have h6:ρ ix= .int kk (i:Int):=(H ix (by simp[Op.operands]) _ hi).1
  obtain⟨v,v1,v2,_⟩:=h2.get hq;obtain⟨t1,t2⟩:=hT.ok;obtain⟨inf,t3,t4⟩:=Option.map_eq_some_iff.1 t2;obtain⟨d,hd1,hd2,_⟩:=hE.ok;have h5:(0:Int)≤(i:Int)∧(i:Int)<(len:Int):=oM;refine⟨v,fun w _=>?_,v2,trivial⟩;simp only[execOp,h1,h6,Instr.index,asIntOf,Sem.run_bind,Sem.run_pure,Result.andThen_ok,run_underlying t1,if_pos h5,sizeOf,run_typeInfo _ t3,t4,part,kF hd1,hd2,Int.toNat_natCast,Nat.mul_one];simp[v1]
theorem Sub.ownAny{σ:St}{t b o l k:Nat}(h1:aB σ.sl t=some (.own b o l k)):Sub σ ⟨(t,.one jC)::σ.sl,σ.bx⟩:=by
 rintro En n w0 h0 c a w ⟨h,β,hi,hs⟩;obtain⟨v,r1,⟨cap,r2,_⟩,_⟩:=hs.slot t _ h1;refine⟨h,β,hi,hs.defers,hs.size,fun t' sd ht=>?_⟩;rw[aC] at ht;split at ht
 ·rename_i e
  subst e;cases ht
  exact⟨v,r1,by show v.oneCell'=true;rw[r2];rfl,trivial⟩
 ·exact hs.slot t' sd ht
theorem nZg(p q:Pd)[C1 p][C1 q]:PLe (cD [p,q]) (cD [jC,jC]):=by
 rintro h v ⟨vs,e,ha⟩;match vs,ha with
 |[a,b],⟨_,h2,_,h4,h5⟩=>exact⟨[a,b],e,h2,h2,h4,h4,h5⟩
theorem cZG(p q r:Pd)[C1 p][C1 q]:PLe (dK [cD [p,q],r]) (dK [cD [jC,jC],r]):=by
 rintro h v ⟨vs,e,ha⟩;match vs,ha with
 |[a,b],⟨h1,h2,h3⟩=>exact⟨[a,b],e,nZg p q _ _ h1,h2,h3⟩
end
theorem nZ5{P:Program}{fn:Func}{σ:St}{r:Pd}{bx':Bx}{a b:ResultVar}{p q:Pd}(hf:fn.results= #[a,b])(h1:RV P σ a p)(h2:RV P σ b q)(hr:PLe (dK [p,q]) r)(hs:subBx σ.bx bx')(hk:LKeep σ.bx bx':=by exact jK rfl):aZq P fn σ (.one r) bx':=by
 refine⟨⟨hs,hk⟩,fun En n w0 h0 c h β act w hi hsl=>?_⟩;obtain⟨v,hv,hp⟩:=h1.run hi hsl;obtain⟨u,hu,hq⟩:=h2.run hi hsl;exact⟨.tuple #[v,u],by rw[fJ,hf];simp[hv,hu],hr _ _ ⟨[v,u],rfl,hp,hq,trivial⟩,trivial⟩
def wy(c:Co)(t:Int):Co:=⟨c.e,c.d,c.s,c.o,t⟩
def fea(g:Nat→Co):List Nat→Nat→Prop
 |[],s=>s%8=0
 |i::l,s=>∃t:Nat,t<8∧bR (wy (g i) (t:Int))∧fea g l (s+(8-t))
theorem gI{g:Nat→Co}:∀{l:List Nat} {s s':Nat},s%8=s'%8→(fea g l s↔fea g l s')
 |[],s,s',h=>by unfold fea;omega
 |i::l,s,s',h=>by
  unfold fea;exact exists_congr fun t=>and_congr_right fun ht=>and_congr_right fun _=>gI oM
theorem nI{g f:Nat→Co}:∀{l:List Nat} {s:Nat},(∀i∈l,∀t,wy (g i) t=wy (f i) t)→(fea g l s↔fea f l s)
 |[],s,_=>Iff.rfl
 |i::l,s,h=>by
  unfold fea;exact exists_congr fun t=>and_congr_right fun ht=>and_congr (by rw[h i (by simp)]) (nI fun j hj=>h j (by simp[hj]))
theorem zO{g:Nat→Co}{i:Nat}:∀{l:List Nat} {s:Nat},fea g (l++[i]) s↔∃t:Nat,t<8∧bR (wy (g i) (t:Int))∧fea g l (s+(8-t))
 |[],s=>by unfold fea;exact Iff.rfl
 |j::l,s=>by
  rw[List.cons_append];unfold fea;constructor
  ·rintro⟨t,ht,hl,hf⟩
   obtain⟨u,hu,hl',hf'⟩:=zO.1 hf;exact⟨u,hu,hl',t,ht,hl,(gI oM).1 hf'⟩
  ·rintro⟨u,hu,hl',t,ht,hl,hf⟩
   exact⟨t,ht,hl,zO.2 ⟨u,hu,hl',(gI oM).1 hf⟩⟩
def b8(S:Nat→Bool):List Pd:=[ex (.bool (S 0)),ex (.bool (S 1)),ex (.bool (S 2)),ex (.bool (S 3)),ex (.bool (S 4)),ex (.bool (S 5)),ex (.bool (S 6)),ex (.bool (S 7))]
theorem kZy{S:Nat→Bool}{r:Nat}(h:r<8):(b8 S)[r]? =some (ex (.bool (S r))):=by
 match r,h with
 |0,_=>rfl
 |1,_=>rfl
 |2,_=>rfl
 |3,_=>rfl
 |4,_=>rfl
 |5,_=>rfl
 |6,_=>rfl
 |7,_=>rfl
 |r+8,h=>omega
theorem pZI{S:Nat→Bool}{r:Nat}(h:r<8):(b8 S).set r (ex (.bool true))=b8 (fun i=>if i=r then true else S i):=by
 match r,h with
 |0,_=>rfl
 |1,_=>rfl
 |2,_=>rfl
 |3,_=>rfl
 |4,_=>rfl
 |5,_=>rfl
 |6,_=>rfl
 |7,_=>rfl
 |r+8,h=>omega
theorem kZz{S T:Nat→Bool}(h:∀r,r<8→S r=T r):b8 S=b8 T:=by
 unfold b8;rw[h 0 oM,h 1 oM,h 2 oM,h 3 oM,h 4 oM,h 5 oM,h 6 oM,h 7 oM]
instance mZi(g:Nat→Co):∀(l:List Nat) (s:Nat),Decidable (fea g l s)
 |[],s=>by unfold fea;infer_instance
 |i::l,s=>by
  unfold fea;have:=fun t=>mZi g l (s+(8-t));infer_instance
def feB(g:Nat→Co)(l:List Nat)(r:Nat):Bool:=decide (fea g l r)
theorem qB{g:Nat→Co}{l:List Nat}{r:Nat}:feB g l r=true↔fea g l r:=by unfold feB;exact decide_eq_true_iff
theorem mZj(g:Nat→Co):b8 (feB g [])=[ex (.bool true),ex (.bool false),ex (.bool false),ex (.bool false),ex (.bool false),ex (.bool false),ex (.bool false),ex (.bool false)]:=by
 have h:∀r,feB g [] r=(r%8==0):=fun r=>by
  rw[Bool.eq_iff_iff,qB];unfold fea;simp
 unfold b8;rw[h,h,h,h,h,h,h,h];rfl
def NX(S:Nat→Bool)(c:Co)(t j:Nat)(N:Nat→Bool):Prop:=∀r,r<8→(N r=true↔∃t' s':Nat,(t'<t∨t'=t∧s'<j)∧s'<8∧S s'=true∧bR (wy c (t':Int))∧(s'+t')%8=r)
theorem NX.start(S:Nat→Bool)(c:Co):NX S c 0 0 (fun _=>false):=fun r _=>by
 constructor
 ·intro h;cases h
 ·rintro⟨t',s',h,_⟩;omega
theorem NX.put{S:Nat→Bool}{c:Co}{t j:Nat}{N:Nat→Bool}(h:NX S c t j N)(hj:j<8)(h1:S j=true)(h2:bR (wy c (t:Int))):NX S c t (j+1) (fun i=>if i=(j+t)%8 then true else N i):=fun r hr=>by
 dsimp only;split
 ·rename_i e
  exact⟨fun _=>⟨t,j,.inr ⟨rfl,oM⟩,hj,h1,h2,e.symm⟩,fun _=>rfl⟩
 ·rename_i e
  rw[h r hr];constructor
  ·rintro⟨t',s',a,b⟩;exact⟨t',s',oM,b⟩
  ·rintro⟨t',s',a,b,c1,c2,c3⟩
   refine⟨t',s',?_,b,c1,c2,c3⟩;rcases a with a|⟨a1,a2⟩
   ·exact .inl a
   ·refine .inr ⟨a1,?_⟩
    rcases Nat.lt_or_ge s' j with g|g
    ·exact g
    ·have:s'=j:=oM
     subst this a1;exact absurd c3.symm e
theorem NX.no{S:Nat→Bool}{c:Co}{t j:Nat}{N:Nat→Bool}(h:NX S c t j N)(h1:¬(S j=true∧bR (wy c (t:Int)))):NX S c t (j+1) N:=fun r hr=>by
 rw[h r hr];constructor
 ·rintro⟨t',s',a,b⟩;exact⟨t',s',oM,b⟩
 ·rintro⟨t',s',a,b,c1,c2,c3⟩
  refine⟨t',s',?_,b,c1,c2,c3⟩;rcases a with a|⟨a1,a2⟩
  ·exact .inl a
  ·refine .inr ⟨a1,?_⟩
   rcases Nat.lt_or_ge s' j with g|g
   ·exact g
   ·have:s'=j:=oM
    subst this a1;exact absurd ⟨c1,c2⟩ h1
theorem NX.next{S:Nat→Bool}{c:Co}{t:Nat}{N:Nat→Bool}(h:NX S c t 8 N):NX S c (t+1) 0 N:=fun r hr=>by
 rw[h r hr];constructor
 ·rintro⟨t',s',a,b⟩;exact⟨t',s',oM,b⟩
 ·rintro⟨t',s',a,b⟩;exact⟨t',s',oM,b⟩
theorem NX.done{g:Nat→Co}{l:List Nat}{i:Nat}{N:Nat→Bool}(h:NX (feB g l) (g i) 8 0 N):b8 N=b8 (feB g (l++[i])):=kZz fun r hr=>by
 rw[Bool.eq_iff_iff,h r hr,qB,zO];constructor
 ·rintro⟨t,s,a,b,c1,c2,c3⟩
  exact⟨t,oM,c2,(gI oM).1 (qB.1 c1)⟩
 ·rintro⟨t,ht,hl,hf⟩
  exact⟨t,(r+(8-t))%8,oM,oM,qB.2 ((gI oM).1 hf),hl,oM⟩
theorem mV{g:Nat→Co}{n x:Nat}(h:x<n)(v:Int):(rows (ccs g) n).set (x*5+4) (i6 v)=rows (ccs (fun i=>if i=x then wy (g x) v else g i)) n:=by
 obtain⟨Lo,Hi,h1,h2,h3⟩:=qT (bC g) h;rw[h3 (ccs (fun i=>if i=x then wy (g x) v else g i)) (fun t ht=>by unfold ccs;dsimp only;rw[if_neg ht]),h2]
 unfold ccs;dsimp only;rw[if_pos rfl,List.set_append_right _ _ oM,h1,show x*5+4-x*5=4 by omega,List.set_append_left _ _ (by simp[coc])]
 rfl
theorem tm8(a:Nat):((a:Nat):Int).tmod 8=((a%8:Nat):Int):=by
 rw[Int.tmod_eq_emod_of_nonneg (Int.natCast_nonneg _)];rfl
section
variable(En:Ev)
theorem oZt(f:Nat→Co)(n:Nat)(hn0:0<n)(hn:n≤20):FnG PZ En 186 ([slc 5 (rows (ccs f) n) n].map .one) [] (.own 7 0 n n) [(7,rows (ccs f) n)]:=by
 have hm:n≤1000000000:=oM;refine bL Tryz.func186 rfl Tryz.ntmps186 rfl ?_;intro w0 h0 c;refine kR ?_;refine vZ jj ?_;refine kR ?_;refine jm jj<|jS (lZ3 hn0 aD jj)<|jn ?_;refine kO ?_;refine WpD.condF rfl ?_;refine kO ?_;refine WpD.skip ?_;refine kR ?_;refine jS (yE)<|jm jj<|jT (xV jj (fun _ _ ⟨a,h⟩=>⟨some a,h⟩) jj hn0 hm jj jj jj)<|vZ jj ?_;refine kO ?_;refine WpD.ret ?_;exact kC rfl rfl rfl oN ⟨.inl pQ,trivial⟩
def lstP(g:Nat→Co)(c:Co)(l:List Nat)(T:Nat):Option Nat→Prop
 |some v=>v<8∧(bR (wy c (v:Int))∧fea g l (T+(8-v)))∧∀t:Nat,t<v→¬(bR (wy c (t:Int))∧fea g l (T+(8-t)))
 |none=>∀t:Nat,t<8→¬(bR (wy c (t:Int))∧fea g l (T+(8-t)))
theorem oZp(g:Nat→Co)(n:Nat)(cc:Co)(l:List Nat)(T:Nat)(hT:T<8)(hl:l.length≤20)(hli:∀i∈l,i<n)(r:Option Nat)(hr:lstP g cc l T r):
  FnG PZ En 187 [.one (cD (coc cc)),.own 1000 0 n n,.one (gP l),.one (i6 T)] [(1000,rows (ccs g) n)] (.one (dK [i6 ((r.getD 0:Nat):Int),ex (.bool r.isSome)])) [(1000,rows (ccs g) n)]:=by
 have hlen:(rows (ccs g) n).length=n*5:=fA (bC g) n;unfold gP;unfold coc;refine bL Tryz.func187 rfl Tryz.ntmps187 rfl ?_;intro w0 h0 c;refine vS<|vB jj<|ja jj<|vZ jj<|vS<|jS (cZT (ps:=[(0,[ex (.bool true)])]) ⟨jj,Part.c jj,trivial⟩ jj)<|vA jj<|vP jj<|jn<|js<|vS<|jm jj<|jE jj<|jm jj<|jn<|jb ?_;refine WpD.loop (α:={k:Nat//k≤l.length}) (fun k=>⟨[(1,.own 1000 0 n n),(3,.one (i6 T)),(4,.ptr 4 0),(10,.ptr 10 0),(18,.one (slc 1 (ixP l) l.length)),(19,.one (i6 l.length)),(20,.one (i6 k.1))],[(1000,rows (ccs g) n),(4,[i6 cc.e,i6 cc.d,i6 cc.s,ex (.bool cc.o),i6 cc.y]),(10,b8 (feB g (l.take k.1)))]⟩) (fun k=>l.length-k.1) ⟨0,Nat.zero_le _⟩ ?_ ?_
 ·dsimp only
  rw[List.take_zero];exact Sub.mk sJ ⟨.inl pQ,.inl pQ,.inl ⟨_,jj,PsLe.of_eq (mZj g).symm⟩,trivial⟩
 rintro⟨k,hk⟩;dsimp only at hk ⊢
 by_cases hlt:k<l.length
 ·have hqi:=iG hlt
  have hmem:=mC 0 hlt;have hx:=hli _ hmem;have hts:l.take (k+1)=l.take k++[l.getD k 0]:=by rw[List.take_succ_eq_append_getElem hlt];simp[List.getD,List.getElem?_eq_getElem hlt]
  have w20:=wS k oM;generalize l.getD k 0=x at*;have hq:((rows (ccs g) n).drop (x*5)).take 5=[ex (.int .i64 (g x).e),ex (.int .i64 (g x).d),ex (.int .i64 (g x).s),ex (.bool (g x).o),ex (.int .i64 (g x).y)]:=bE (bC g) hx;have hl5:x*5+5≤(rows (ccs g) n).length:=by rw[hlen];omega
  generalize hS:feB g (l.take k)=S at*;refine vS<|vLt jj<|vW jj<|vS<|vD jj hlt hqi<|vT jj<|vZ jj<|vS<|vA jj<|vJ<|vV jj jj<|jS (cL jj jj hx (o':=x*5) oM)<|jS (tR jj jj hl5 hq)<|vA jj<|vP jj<|jn<|js<|vS<|vF jj<|jO (kI jj jj jj jj jj)<|jn<|jb ?_;refine WpD.loop (α:={q:Nat×(Nat→Bool)//q.1≤8∧NX S (g x) q.1 0 q.2}) (fun q=>⟨[(1,.own 1000 0 n n),(3,.one (i6 T)),(4,.ptr 4 0),(10,.ptr 10 0),(13,.ptr 13 0),(14,.ptr 14 0),(18,.one (slc 1 (ixP l) l.length)),(19,.one (i6 l.length)),(20,.one (i6 k))],[(1000,rows (ccs g) n),(4,[i6 cc.e,i6 cc.d,i6 cc.s,ex (.bool cc.o),i6 cc.y]),(10,b8 S),(13,b8 q.1.2),(14,[ex (.int .i64 (g x).e),ex (.int .i64 (g x).d),ex (.int .i64 (g x).s),ex (.bool (g x).o),i6 q.1.1])]⟩) (fun q=>8-q.1.1) ⟨(0,fun _=>false),Nat.zero_le _,NX.start S (g x)⟩ ?_ ?_
  ·dsimp only
   exact Sub.mk sJ sJ
  rintro⟨⟨t,N⟩,ht,hN⟩;dsimp only at ht hN ⊢
  by_cases ht8:t<8
  ·have C1:=eZ4 En (wy (g x) (t:Int))
   have w33:=wS t oM;unfold coc wy at C1;dsimp only at C1;refine js<|vS<|vX jj<|vLt jj<|jn<|jt jj<|jp<|js<|jb<|vS<|vL jj<|jm jj<|jn<|jb ?_;refine WpD.loop (α:={q:Nat×(Nat→Bool)//q.1≤8∧NX S (g x) t q.1 q.2}) (fun q=>⟨[(1,.own 1000 0 n n),(3,.one (i6 T)),(4,.ptr 4 0),(10,.ptr 10 0),(13,.ptr 13 0),(14,.ptr 14 0),(18,.one (slc 1 (ixP l) l.length)),(19,.one (i6 l.length)),(20,.one (i6 k)),(36,.one (cD (b8 S))),(37,.one (i6 q.1.1))],[(1000,rows (ccs g) n),(4,[i6 cc.e,i6 cc.d,i6 cc.s,ex (.bool cc.o),i6 cc.y]),(10,b8 S),(13,b8 q.1.2),(14,[ex (.int .i64 (g x).e),ex (.int .i64 (g x).d),ex (.int .i64 (g x).s),ex (.bool (g x).o),i6 t])]⟩) (fun q=>8-q.1.1) ⟨(0,N),Nat.zero_le _,hN⟩ ?_ ?_
   ·dsimp only
    exact Sub.mk sJ sJ
   clear hN N;rintro⟨⟨j,N⟩,hj,hN⟩;dsimp only at hj hN ⊢
   by_cases hj8:j<8
   ·have hg8:=kZy (S:=S) hj8
    have w37:=wS j oM;have w49:IntKind.i64.wrap ((j:Int)+(t:Int))=((j+t:Nat):Int):=by rw[w64 oM oM];rfl
    have h50:(j+t)%8<8:=Nat.mod_lt _ aD;have h50':(j+t)%8<(b8 N).length:=h50;have hset:=pZI (S:=N) h50;cases hSj:S j with
    |true=>
     rw[hSj] at hg8
     by_cases hlg:bR (wy (g x) (t:Int))
     ·rw[decide_eq_true (show bR ⟨(g x).e,(g x).d,(g x).s,(g x).o,(t:Int)⟩ from hlg)] at C1
      refine vS<|vLt jj<|vW jj<|vS<|jm jj<|jS (tX jj jj hj8 hg8)<|ja jj<|vZ jj<|vS<|vV jj jj<|jg (dM jj jj jj jj)<|jg (aQ C1 ⟨jj,trivial⟩)<|vq jj<|jn<|jt jj<|jr<|jm jj<|vX jj<|vAd jj w49<|jS (bRe jj jj (tm8 _))<|jS (oT jj jj h50 (o':=(j+t)%8) oM)<|jO (bX jj jj jj h50' hset)<|jn<|jr<|vAd jj w37<|jm jj<|jn ?_;refine⟨⟨(j+1,fun i=>if i=(j+t)%8 then true else N i),oD,hN.put hj8 hSj hlg⟩,?_,oD⟩;dsimp only;exact Sub.mk sJ sJ
     ·rw[decide_eq_false (show ¬bR ⟨(g x).e,(g x).d,(g x).s,(g x).o,(t:Int)⟩ from hlg)] at C1
      refine vS<|vLt jj<|vW jj<|vS<|jm jj<|jS (tX jj jj hj8 hg8)<|ja jj<|vZ jj<|vS<|vV jj jj<|jg (dM jj jj jj jj)<|jg (aQ C1 ⟨jj,trivial⟩)<|vq jj<|jn<|jf jj<|jp<|jr<|vAd jj w37<|jm jj<|jn ?_;refine⟨⟨(j+1,N),oD,hN.no (fun h=>hlg h.2)⟩,?_,oD⟩;dsimp only;exact Sub.mk sJ sJ
    |false=>
     rw[hSj] at hg8;refine vS<|vLt jj<|vW jj<|vS<|jm jj<|jS (tX jj jj hj8 hg8)<|ja jj<|vZ jj<|vS<|vV jj jj<|jk<|jk<|vQ jj<|jn<|jf jj<|jp<|jr<|vAd jj w37<|jm jj<|jn ?_;refine⟨⟨(j+1,N),oD,hN.no (fun h=>by rw[hSj] at h;exact Bool.noConfusion h.1)⟩,?_,oD⟩
     dsimp only;exact Sub.mk sJ sJ
   ·have hj8':j=8:=oM
    subst hj8';refine vS<|vLf jj<|vU jj<|jr<|vX jj<|vAd jj w33<|vF jj<|jO (kI jj jj jj jj jj)<|jn ?_;refine⟨⟨(t+1,N),oD,hN.next⟩,?_,oD⟩;dsimp only;exact Sub.mk sJ sJ
  ·have ht8':t=8:=oM
   subst ht8';have hfin:b8 N=b8 (feB g (l.take (k+1))):=by rw[hts];rw[←hS] at hN;exact hN.done
   rw[hfin];refine js<|vS<|vX jj<|vLf jj<|jn<|jf jj<|je<|jr<|vL jj<|vP jj<|jn<|jr<|vAd jj w20<|jm jj<|jn ?_;refine⟨⟨k+1,oM⟩,?_,oD⟩;dsimp only;exact Sub.mk sJ sJ
 ·have hkl:k=l.length:=oM
  subst hkl;rw[List.take_length];generalize hS:feB g l=S at*;refine vS<|vLf jj<|vU jj<|js<|vS<|vF jj<|jO (kI jj jj jj jj jj)<|jn<|jb ?_;refine WpD.loop (α:={t:Nat//t≤8∧∀t':Nat,t'<t→¬(bR (wy cc (t':Int))∧fea g l (T+(8-t')))}) (fun t=>⟨[(1,.own 1000 0 n n),(3,.one (i6 T)),(4,.ptr 4 0),(10,.ptr 10 0)],[(1000,rows (ccs g) n),(4,[i6 cc.e,i6 cc.d,i6 cc.s,ex (.bool cc.o),i6 t.1]),(10,b8 S)]⟩) (fun t=>8-t.1) ⟨0,Nat.zero_le _,fun t' h=>absurd h (Nat.not_lt_zero _)⟩ ?_ ?_
  ·dsimp only
   exact Sub.mk sJ sJ
  rintro⟨t,ht,hno⟩;dsimp only at ht hno ⊢
  by_cases ht8:t<8
  ·have C1:=eZ4 En (wy cc (t:Int))
   unfold coc wy at C1;dsimp only at C1;have w60:=wS t oM;have w69:IntKind.i64.wrap ((T:Int)-(t:Int))=(T:Int)-(t:Int):=w64 oM oM;have w70:IntKind.i64.wrap ((T:Int)-(t:Int)+8)=((T+(8-t):Nat):Int):=by rw[w64 oM oM];omega
   have h71:(T+(8-t))%8<8:=Nat.mod_lt _ aD;have hg8:=kZy (S:=S) h71;have hnext:¬(bR (wy cc (t:Int))∧fea g l (T+(8-t)))→∀t':Nat,t'<t+1→¬(bR (wy cc (t':Int))∧fea g l (T+(8-t'))):=fun h t' h'=>by
    rcases Nat.lt_or_ge t' t with q|q
    ·exact hno t' q
    ·rw[show t'=t by omega];exact h
   by_cases hlg:bR (wy cc (t:Int))
   ·rw[decide_eq_true (show bR ⟨cc.e,cc.d,cc.s,cc.o,(t:Int)⟩ from hlg)] at C1
    by_cases hf:fea g l (T+(8-t))
    ·have hb:S ((T+(8-t))%8)=true:=by rw[←hS,qB];exact(gI oM).1 hf
     have hre:r=some t:=by
      cases r with
      |none=>exact absurd ⟨hlg,hf⟩ (hr t ht8)
      |some v=>
       obtain⟨r1,r2,r3⟩:=hr;rcases Nat.lt_trichotomy v t with q|q|q
       ·exact absurd r2 (hno v q)
       ·rw[q]
       ·exact absurd ⟨hlg,hf⟩ (r3 t q)
     subst hre;rw[hb] at hg8;refine js<|vS<|vX jj<|vLt jj<|jn<|jt jj<|jp<|js<|jb<|vS<|vL jj<|vC C1 ⟨jj,trivial⟩<|jm jj<|jgm jj<|vY jj<|jg (bSu jj jj w69)<|jg (bAd jj jj w70)<|jg (bRe jj jj (tm8 _))<|jg (oT jj jj h71 (o':=(T+(8-t))%8) oM)<|jg (aX jj jj hg8)<|vq jj<|jn<|jt jj<|vS<|vX jj<|ja jj<|vZ jj<|ji ?_;exact nZ5 rfl (.tmp rfl) (.tmp rfl) (PLe.refl _) ⟨.inl pQ,trivial⟩
    ·have hb:S ((T+(8-t))%8)=false:=by rw[Bool.eq_false_iff,←hS];intro h;exact hf ((gI oM).1 (qB.1 h))
     rw[hb] at hg8;refine js<|vS<|vX jj<|vLt jj<|jn<|jt jj<|jp<|js<|jb<|vS<|vL jj<|vC C1 ⟨jj,trivial⟩<|jm jj<|jgm jj<|vY jj<|jg (bSu jj jj w69)<|jg (bAd jj jj w70)<|jg (bRe jj jj (tm8 _))<|jg (oT jj jj h71 (o':=(T+(8-t))%8) oM)<|jg (aX jj jj hg8)<|vq jj<|jn<|jf jj<|jp<|jr<|vX jj<|vAd jj w60<|vF jj<|jO (kI jj jj jj jj jj)<|jn ?_;refine⟨⟨t+1,oM,hnext (fun h=>hf h.2)⟩,?_,oD⟩;dsimp only;exact Sub.mk sJ sJ
   ·rw[decide_eq_false (show ¬bR ⟨cc.e,cc.d,cc.s,cc.o,(t:Int)⟩ from hlg)] at C1
    refine js<|vS<|vX jj<|vLt jj<|jn<|jt jj<|jp<|js<|jb<|vS<|vL jj<|vC C1 ⟨jj,trivial⟩<|jm jj<|jk<|jk<|jk<|jk<|jk<|jk<|jk<|jk<|vQ jj<|jn<|jf jj<|jp<|jr<|vX jj<|vAd jj w60<|vF jj<|jO (kI jj jj jj jj jj)<|jn ?_;refine⟨⟨t+1,oM,hnext (fun h=>hlg h.1)⟩,?_,oD⟩;dsimp only;exact Sub.mk sJ sJ
  ·have hre:r=none:=by
    cases r with
    |none=>rfl
    |some v=>exact absurd hr.2.1 (hno v (by have:=hr.1;omega))
   subst hre;refine js<|vS<|vX jj<|vLf jj<|jn<|jf jj<|je<|vS<|ja jj<|vZ jj<|ji ?_;exact nZ5 rfl (.tmp rfl) (.tmp rfl) (PLe.refl _) ⟨.inl pQ,trivial⟩
end
end
section
open Go.RowKit Limb Num
theorem dZA(b j:Nat→Bool):∀i,((bO b j i).1.flatten++(bO b j i).2).Pairwise (· < ·)
 |0=>by simp[bO]
 |i+1=>by
  have h1:=dZA b j i;obtain⟨l1,l2⟩:=cZh b j i;have hlt:∀a∈(bO b j i).1.flatten++(bO b j i).2,a<i:=fun a ha=>by
   rcases List.mem_append.1 ha with h|h
   ·obtain⟨g,hg,ha⟩:=List.mem_flatten.1 h
    exact l1 g hg a ha
   ·exact l2 a h
  have key:((bO b j i).1.flatten++(bO b j i).2++[i]).Pairwise (· < ·):=List.pairwise_append.2 ⟨h1,by simp,fun a ha c hc=>by simp at hc;subst hc;exact hlt a ha⟩
  rw[bO];split
  ·exact h1
  ·split
   ·dsimp only
    rw[←List.append_assoc];exact key
   ·dsimp only
    split
    ·rename_i e
     rw[e,List.append_nil] at key;exact key
    ·rw[List.flatten_append];simpa using key
theorem eZl{b j:Nat→Bool}{n:Nat}:(dR (bO b j n)).flatten.Pairwise (· < ·):=by
 have h:=dZA b j n;unfold dR;split
 ·rename_i e;rw[e,List.append_nil] at h;exact h
 ·rw[List.flatten_append];simpa using h
theorem eZh{G:List (List Nat)}(h:G.flatten.Pairwise (· < ·)){k x:Nat}(hk:k<G.length)(hx:x∈G.getD k []):x∉(G.take k).flatten:=by
 intro hc;have e:G=G.take k++G.getD k []::G.drop (k+1):=by
  rw[←iB hk,List.take_append_drop]
 rw[e,List.flatten_append] at h;have:=(List.pairwise_append.1 h).2.2 x hc x (by rw[List.flatten_cons];exact List.mem_append_left _ hx)
 omega
theorem dZ9{b j:Nat→Bool}:∀{n i:Nat},i∈(bO b j n).1.flatten++(bO b j n).2↔i<n∧b i=true
 |0,i=>by simp[bO]
 |n+1,i=>by
  have h1:=dZ9 (b:=b) (j:=j) (n:=n) (i:=i);rw[bO];split
  ·rename_i hb
   rw[h1];constructor
   ·rintro⟨a,c⟩;exact⟨oM,c⟩
   ·rintro⟨a,c⟩
    refine⟨?_,c⟩;rcases Nat.lt_or_ge i n with h|h
    ·exact h
    ·rw[show i=n by omega,hb] at c;exact Bool.noConfusion c
  ·rename_i hb
   have hbt:b n=true:=by simpa using hb
   have key:i∈(bO b j n).1.flatten++(bO b j n).2++[n]↔i<n+1∧b i=true:=by
    rw[List.mem_append,h1];constructor
    ·rintro(⟨a,c⟩|h)
     ·exact⟨oM,c⟩
     ·simp at h;subst h;exact⟨oM,hbt⟩
    ·rintro⟨a,c⟩
     rcases Nat.lt_or_ge i n with h|h
     ·exact .inl ⟨h,c⟩
     ·exact .inr (by simp;omega)
   split
   ·dsimp only
    rw[←List.append_assoc];exact key
   ·dsimp only
    split
    ·rename_i e
     rw[e,List.append_nil] at key;exact key
    ·rw[List.flatten_append];simpa using key
theorem kZ1{b j:Nat→Bool}{n i:Nat}:i∈(dR (bO b j n)).flatten↔i<n∧b i=true:=by
 rw[←dZ9 (j:=j)];unfold dR;split
 ·rename_i e;rw[e,List.append_nil]
 ·rw[List.flatten_append];simp
theorem sW{G:List (List Nat)}{i:Nat}(h:i∈G.flatten):cof G i∈G∧i∈cof G i:=by
 induction G with
 |nil=>simp at h
 |cons g G ih=>
  rw[cof];split
  ·rename_i hi;exact⟨by simp,hi⟩
  ·rename_i hi
   rw[List.flatten_cons,List.mem_append] at h;have:=ih (h.resolve_left hi);exact⟨by simp[this.1],this.2⟩
theorem uS{G:List (List Nat)}(h:G.flatten.Pairwise (· < ·)){g:List Nat}{i:Nat}(hg:g∈G)(hi:i∈g):cof G i=g:=by
 induction G with
 |nil=>cases hg
 |cons a G ih=>
  rw[List.flatten_cons] at h;obtain⟨_,h2,h3⟩:=List.pairwise_append.1 h;rw[cof];rcases List.mem_cons.1 hg with e|e
  ·subst e;rw[if_pos hi]
  ·rw[if_neg (fun hc=>by have:=h3 i hc i (List.mem_flatten.2 ⟨g,e,hi⟩);omega)]
   exact ih h2 e
theorem qG{G:List (List Nat)}(h:G.flatten.Pairwise (· < ·)){g:List Nat}(hg:g∈G):g.Pairwise (· < ·):=by
 induction G with
 |nil=>cases hg
 |cons a G ih=>
  rw[List.flatten_cons] at h;obtain⟨h1,h2,_⟩:=List.pairwise_append.1 h;rcases List.mem_cons.1 hg with e|e
  ·subst e;exact h1
  ·exact ih h2 e
theorem eZi{g:List Nat}(h:g.Pairwise (· < ·)){k:Nat}(h0:0<k)(hk:k<g.length):g.getD 0 0≠g.getD k 0:=by
 have:=List.pairwise_iff_getElem.1 h 0 k oM hk h0;simp only[List.getD,List.getElem?_eq_getElem (show 0<g.length by omega),List.getElem?_eq_getElem hk,Option.getD_some]
 omega
theorem gQ(f:Nat→Co)(n:Nat):(aL f n).flatten.Pairwise (· < ·):=eZl
theorem jU{f:Nat→Co}{n i:Nat}:i∈(aL f n).flatten↔i<n∧(f i).o=true:=kZ1
theorem oE{f:Nat→Co}{n:Nat}:∀g∈aL f n,g≠[]:=fun g hg=>tH g hg
theorem zJ{f:Nat→Co}{g:List Nat}:∀{m:Nat},gU f g m↔∀k,k<m→0<k→(f (g.getD k 0)).y=0
 |0=>by unfold gU;exact⟨fun _ k h=>absurd h (Nat.not_lt_zero _),fun _=>trivial⟩
 |m+1=>by
  unfold gU;rw[zJ];constructor
  ·rintro⟨a,b⟩ k hk h0
   rcases Nat.lt_or_ge k m with h|h
   ·exact a k h h0
   ·rw[show k=m by omega] at h0 ⊢;exact b h0
  ·intro h;exact⟨fun k hk=>h k oM,fun h0=>h m oM h0⟩
theorem qA{f:Nat→Co}{G:List (List Nat)}:∀{m:Nat},m≤G.length→(grU f G m↔∀g∈G.take m,gOK f g)
 |0,_=>by unfold grU;simp
 |m+1,h=>by
  unfold grU;rw[qA oM,List.take_succ_eq_append_getElem oM];have e:G.getD m []=G[m]'oM:=by simp[List.getD,List.getElem?_eq_getElem (show m<G.length by omega)]
  rw[e];constructor
  ·rintro⟨a,b⟩ g hg
   rcases List.mem_append.1 hg with q|q
   ·exact a g q
   ·simp at q;subst q;exact b
  ·intro q
   exact⟨fun g hg=>q g (List.mem_append_left _ hg),q _ (List.mem_append_right _ (by simp))⟩
end
section
open Go.RowKit Limb Num
theorem oZY(g:Nat→Co)(c:Co)(l:List Nat)(T:Nat):∃r,lstP g c l T r:=by
 have h:∀m:Nat,m≤8→(∃v:Nat,v<m∧(bR (wy c (v:Int))∧fea g l (T+(8-v)))∧∀t:Nat,t<v→¬(bR (wy c (t:Int))∧fea g l (T+(8-t))))∨∀t:Nat,t<m→¬(bR (wy c (t:Int))∧fea g l (T+(8-t))):=by
  intro m;induction m with
  |zero=>intro _;exact .inr fun t ht=>absurd ht (Nat.not_lt_zero _)
  |succ m ih=>
   intro hm;rcases ih oM with⟨v,h1,h2⟩|h
   ·exact .inl ⟨v,oM,h2⟩
   ·by_cases hq:bR (wy c (m:Int))∧fea g l (T+(8-m))
    ·exact .inl ⟨m,oM,hq,h⟩
    ·refine .inr fun t ht=>?_
     rcases Nat.lt_or_ge t m with q|q
     ·exact h t q
     ·rw[show t=m by omega];exact hq
 rcases h 8 (Nat.le_refl _) with⟨v,h1,h2,h3⟩|h
 ·exact⟨some v,h1,h2,h3⟩
 ·exact⟨none,h⟩
theorem fP{g:Nat→Co}{i:Nat}{l:List Nat}{s:Nat}:fea g (i::l) s↔∃t:Nat,t<8∧bR (wy (g i) (t:Int))∧fea g l (s+(8-t)):=by rw[fea]
def FE(f:Nat→Co)(g:List Nat):Prop:=fea f g (f (g.getD 0 0)).y.toNat
instance(f:Nat→Co)(g:List Nat):Decidable (FE f g):=by unfold FE;infer_instance
def FEs(f:Nat→Co)(G:List (List Nat)):Prop:=∀g∈G,FE f g
instance(f:Nat→Co)(G:List (List Nat)):Decidable (FEs f G):=by unfold FEs;infer_instance
section
variable(En:Ev)
theorem kZW(p:Int)(f:Nat→Co)(n:Nat)(hn:n≤20)(hfu:lD p f n)(r:Bool)(hr:r=true↔FEs f (aL f n)):Fn PZ En 168 [cO p f n] (dK [cD [jC,jC],ex (.bool r)]):=by
 have C0:=oZq En p f n hn;rw[decide_eq_true hfu] at C0;have hsU:=hfu.1.2.2;have hn0:0<n:=Nat.pos_of_ne_zero hfu.1.2.1;have H:Shp f n:=⟨hn,fun k hk=>(dX hsU hk).1,fun k hk=>(dX hsU hk).2.1⟩;have hy:∀i,i<n→0≤(f i).y∧(f i).y≤7:=fun i hi=>⟨(gH hfu.2.1 hi).2.1,(gH hfu.2.1 hi).2.2.1⟩;have C1:=oZt En f n hn0 hn;have C2:=bZq En p f n H;have hGi:∀g∈aL f n,g.length≤20:=fun g hg=>Nat.le_trans (mK g hg) hn;have hGt:∀g∈aL f n,∀k∈g,k<n:=fun g hg=>lM g hg;have hGn:∀g∈aL f n,g≠[]:=fun g hg=>tH g hg;have hl:(aL f n).length≤20:=Nat.le_trans (kU _ _ _).1 hn;have hasc:(aL f n).flatten.Pairwise (· < ·):=eZl;unfold cO iA at*;generalize aL f n=G at*;refine aA Tryz.func168 rfl Tryz.ntmps168 rfl ?_;intro w0 h0;refine vS<|vB jj<|vA jj<|vZ jj<|js<|vS<|vL jj<|vC C0 ⟨jj,trivial⟩<|jS (bNo jj)<|jn<|jf jj<|jp<|vS<|vX jj<|jT (sA C1 jj ⟨jj,trivial⟩ jj jj)<|vZ jj<|js<|vS<|vL jj<|vC C2 ⟨jj,trivial⟩<|jE jj<|jm jj<|jn<|jb ?_;refine WpD.loop (α:={q:Nat×(Nat→Co)//q.1≤G.length∧(∀i t,wy (q.2 i) t=wy (f i) t)∧(∀i,i∉(G.take q.1).flatten→q.2 i=f i)∧(FEs f G↔FEs f (G.drop q.1))}) (fun q=>⟨[(2,.ptr 2 0),(4,.own 18 0 n n),(20,.one (slc 1 (G.map gP) G.length)),(21,.one (i6 G.length)),(22,.one (i6 q.1.1))],[(2,[i6 0,ex (.slice none 0 0)]),(18,rows (ccs q.1.2) n)]⟩) (fun q=>G.length-q.1.1) ⟨(0,f),Nat.zero_le _,fun _ _=>rfl,fun _ _=>rfl,Iff.rfl⟩ ?_ ?_
 ·exact Sub.mk sJ sJ
 rintro⟨⟨k,g⟩,hk,hw,hun,he⟩;dsimp only at hk hw hun he ⊢
 by_cases hlt:k<G.length
 ·have hq:=rD hlt
  have w1:=wS k oM;have hmem:=mC [] hlt;have hts:G.take (k+1)=G.take k++[G.getD k []]:=by rw[List.take_succ_eq_append_getElem hlt];simp[List.getD,List.getElem?_eq_getElem hlt]
  have hnt:=fun x=>eZh hasc hlt (x:=x);have he':FEs f G↔FE f (G.getD k [])∧FEs f (G.drop (k+1)):=by
   rw[he,iB (d:=[]) hlt];unfold FEs;simp
  have n1:=hGi _ hmem;have n2:=hGt _ hmem;have n3:=hGn _ hmem;generalize G.getD k []=l at*;have hl0:0<l.length:=List.length_pos_iff.2 n3;have hq0:=iG hl0;have hm0:=mC 0 hl0;have hx0:=n2 _ hm0;have hg0:g (l.getD 0 0)=f (l.getD 0 0):=hun _ (hnt _ hm0);have hy0:=hy _ hx0;have hfe:FE f l↔fea f l (f (l.getD 0 0)).y.toNat:=Iff.rfl;have hyn:(f (l.getD 0 0)).y=(((f (l.getD 0 0)).y.toNat:Nat):Int):=oM;have hyl:(f (l.getD 0 0)).y.toNat<8:=oM;have hlen:(rows (ccs g) n).length=n*5:=fA (bC g) n;have hcell:(rows (ccs g) n)[l.getD 0 0*5+4]? =some (i6 (((f (l.getD 0 0)).y.toNat:Nat):Int)):=by
   have h5:((rows (ccs g) n).drop (l.getD 0 0*5)).take 5=coc (g (l.getD 0 0)):=bE (bC g) hx0;have h6:(((rows (ccs g) n).drop (l.getD 0 0*5)).take 5)[4]? =some (ex (.int .i64 (g (l.getD 0 0)).y)):=by rw[h5];rfl
   rw[List.getElem?_take_of_lt aD,List.getElem?_drop] at h6;rw[h6,hg0,←hyn]
  generalize hT:(f (l.getD 0 0)).y.toNat=T at*;generalize hz:l.getD 0 0=z at*;unfold gP at hq;refine vS<|vLt jj<|vW jj<|vS<|vD jj hlt hq<|vT jj<|vZ jj<|vS<|vV jj jj<|jS (aK (i:=0) jj jj hl0 hq0)<|vT jj<|jS (cL jj jj hx0 (o':=z*5) oM)<|vF jj<|jS (aX jj jj hcell)<|vZ jj<|vS<|jm jj<|jE jj<|jm jj<|jn<|jb ?_;refine WpD.loop (α:={q:Nat×(Nat→Co)×Nat//q.1≤l.length∧q.2.2<8∧(∀i t,wy (q.2.1 i) t=wy (f i) t)∧(∀i,i∉(G.take (k+1)).flatten→q.2.1 i=f i)∧(fea f l T↔fea f (l.drop q.1) q.2.2)∧(q.1=0∨fea f (l.drop q.1) q.2.2)}) (fun q=>⟨[(2,.ptr 2 0),(4,.own 18 0 n n),(6,.one (slc 1 (ixP l) l.length)),(7,.one (i6 q.1.2.2)),(20,.one (slc 1 (G.map gP) G.length)),(21,.one (i6 G.length)),(22,.one (i6 k)),(33,.one (slc 1 (ixP l) l.length)),(34,.one (i6 l.length)),(35,.one (i6 q.1.1))],[(2,[i6 0,ex (.slice none 0 0)]),(18,rows (ccs q.1.2.1) n)]⟩) (fun q=>l.length-q.1.1) ⟨(0,g,T),Nat.zero_le _,hyl,hw,fun i hi=>hun i (fun h=>hi (by rw[hts,List.flatten_append];exact List.mem_append_left _ h)),Iff.rfl,.inl rfl⟩ ?_ ?_
  ·exact Sub.mk sJ sJ
  clear hcell hlen hg0 hun hw g;rintro⟨⟨j,g,S⟩,hj,hS,hw,hun,hef,htr⟩;dsimp only at hj hS hw hun hef htr ⊢
  by_cases hlj:j<l.length
  ·have hqi:=iG hlj
   have hmi:=mC 0 hlj;have hx:=n2 _ hmi;have hdc:l.drop j=l.getD j 0::l.drop (j+1):=iB hlj;have hxin:l.getD j 0∈(G.take (k+1)).flatten:=by rw[hts,List.flatten_append];exact List.mem_append_right _ (by simpa using hmi)
   generalize l.getD j 0=x at*;have hlen:(rows (ccs g) n).length=n*5:=fA (bC g) n;have hq5:((rows (ccs g) n).drop (x*5)).take 5=coc (g x):=bE (bC g) hx;have hl5:x*5+5≤(rows (ccs g) n).length:=by rw[hlen];omega
   have w35:=wS j oM;have hdr:(ixP l).drop ((j+1)*1)=ixP (l.drop (j+1)):=by unfold ixP;rw[List.map_drop,Nat.mul_one]
   have hj1:j+1≤l.length:=hlj;obtain⟨o,ho⟩:=oZY g (g x) (l.drop (j+1)) S;have C3:=oZp En g n (g x) (l.drop (j+1)) S hS (by rw[List.length_drop];omega) (fun i hi=>n2 i (List.mem_of_mem_drop hi)) o ho
   unfold gP at C3;rw[List.length_drop] at C3;have hcg:∀s,fea g (l.drop (j+1)) s↔fea f (l.drop (j+1)) s:=fun s=>nI fun i _ t=>hw i t;cases o with
   |none=>
    have hnf:¬fea f (l.drop j) S:=by
     rw[hdc,fP];rintro⟨t,ht,a,b⟩;exact ho t ht ⟨by rw[hw];exact a,(hcg _).2 b⟩
    have hrf:r=false:=by
     rw[Bool.eq_false_iff];intro h;exact hnf (hef.1 (hfe.1 (he'.1 (hr.1 h)).1))
    subst hrf;rw[show(none:Option Nat).isSome=false from rfl] at C3
    refine vS<|vLt jj<|vW jj<|vS<|jm jj<|vD jj hlj hqi<|vT jj<|ja jj<|vZ jj<|vS<|vV jj jj<|jS (cL jj jj hx (o':=x*5) oM)<|jS (tR jj jj hl5 hq5)<|vV jj jj<|jm jj<|vAd jj w35<|jS (qV jj jj hj1 hdr)<|jm jj<|jT (dI (fun _=>18) C3 ⟨jj,⟨jj,oN⟩,jj,jj,trivial⟩ ⟨jj,trivial⟩ jj jj jj)<|jm jj<|vE jj<|vE jj<|ja jj<|vZ jj<|js<|vS<|jm jj<|jS (bNo jj)<|jn ?_;refine jt jj<|vS<|jS (aU (ps:=[]) trivial jj)<|vP jj<|vZ jj<|ji ?_;exact lB rfl (.cell rfl rfl CRow.ok rfl) (.tmp rfl) (cZG _ _ _)
   |some v=>
    obtain⟨v8,⟨v1,v2⟩,_⟩:=ho;have hff:fea f (l.drop (j+1)) (S+(8-v)):=(hcg _).1 v2;have hfj:fea f (l.drop j) S:=by rw[hdc,fP];exact⟨v,v8,by rw[←hw];exact v1,hff⟩
    have hmod:fea f (l.drop (j+1)) ((S+(8-v))%8):=(gI oM).1 hff;have hset:=mV (g:=g) hx (v:Int);have hsl:x*5+4<(rows (ccs g) n).length:=by rw[hlen];omega
    have w64a:IntKind.i64.wrap ((S:Int)-(v:Int))=(S:Int)-(v:Int):=w64 oM oM;have w65:IntKind.i64.wrap ((S:Int)-(v:Int)+8)=((S+(8-v):Nat):Int):=by rw[w64 oM oM];omega
    rw[show(some v:Option Nat).isSome=true from rfl,show(some v:Option Nat).getD 0=v from rfl] at C3
    refine vS<|vLt jj<|vW jj<|vS<|jm jj<|vD jj hlj hqi<|vT jj<|ja jj<|vZ jj<|vS<|vV jj jj<|jS (cL jj jj hx (o':=x*5) oM)<|jS (tR jj jj hl5 hq5)<|vV jj jj<|jm jj<|vAd jj w35<|jS (qV jj jj hj1 hdr)<|jm jj<|jT (dI (fun _=>18) C3 ⟨jj,⟨jj,oN⟩,jj,jj,trivial⟩ ⟨jj,trivial⟩ jj jj jj)<|jm jj<|vE jj<|vE jj<|ja jj<|vZ jj<|js<|vS<|jm jj<|jS (bNo jj)<|jn ?_;refine jf jj<|jp<|vS<|vV jj jj<|jm jj<|jS (cL jj jj hx (o':=x*5) oM)<|vF jj<|jO (bX jj jj jj hsl hset)<|jn<|jr<|vV jj jj<|vSu jj w64a<|vAd jj w65<|jS (bRe jj jj (tm8 _))<|vZ jj<|jr<|vAd jj w35<|jm jj<|jn ?_;refine⟨⟨(j+1,fun i=>if i=x then wy (g x) (v:Int) else g i,(S+(8-v))%8),oD,Nat.mod_lt _ aD,fun i t=>?_,fun i hi=>?_,hef.trans ⟨fun _=>hmod,fun _=>hfj⟩,.inr hmod⟩,?_,oD⟩
    ·dsimp only
     split
     ·rename_i e;subst e;exact hw i t
     ·exact hw i t
    ·dsimp only
     rw[if_neg (fun e=>hi (by rw[e];exact hxin))]
     exact hun i hi
    dsimp only;exact Sub.mk sJ sJ
  ·have hjl:j=l.length:=oM
   have hfl:FE f l:=hfe.2 (hef.2 (by
    rcases htr with h|h
    ·omega
    ·exact h))
   refine vS<|vLf jj<|vU jj<|jr<|vAd jj w1<|jm jj<|jn ?_;refine⟨⟨(k+1,g),oD,hw,hun,he'.trans ⟨fun h=>h.2,fun h=>⟨hfl,h⟩⟩⟩,?_,oD⟩;dsimp only;exact Sub.mk sJ sJ
 ·have hrt:r=true:=hr.2 (he.2 (by rw[List.drop_of_length_le oM];unfold FEs;simp))
  subst hrt;refine vS<|vLf jj<|jn<|js<|jf jj<|je ?_;refine WpD.sub (Sub.ownAny (t:=4) rfl) ?_;refine kR ?_;refine jm jj<|jS (aU (ps:=[(_,_),(_,_)]) ⟨jj,Part.c jj,jj,Part.c jj,trivial⟩ jj)<|vP jj<|vZ jj<|ji ?_;exact lB rfl (.cell rfl rfl CRow.ok rfl) (.tmp rfl) (cZG _ _ _)
end
end
section
open Go.RowKit Limb Num
instance kb147:CBody PZ 147:=cB Tryz.func147
theorem iZ7(En:Ev)(f:Nat→Co)(n:Nat)(H:Shp f n):Fn PZ En 147 [slc 5 (rows (ccs f) n) n] (iA (aL f n)):=by
 have hn:=H.n20;unfold aL;obtain⟨b,hb⟩:∃b:Nat→Bool,b=fun i=>(f i).o:=⟨_,rfl⟩;obtain⟨j,hj⟩:∃j:Nat→Bool,j=oI f:=⟨_,rfl⟩;rw[←hb,←hj];refine aA Tryz.func147 rfl Tryz.ntmps147 rfl ?_;intro w0 h0;refine vS<|vZ jj<|vS<|vZ jj<|js<|vS<|jm jj<|jE jj<|jm jj<|jn<|jb ?_;refine WpD.sub (τ:=⟨[(0,.one (slc 5 (rows (ccs f) n) n)),(3,.app 503 1 0),(6,.one (slc 5 (rows (ccs f) n) n)),(7,.one (i6 n)),(8,.one (i6 ((0:Nat):Int)))],[(503,[]),(753,[]),(543,[]),(793,[])]⟩) ?_ ?_
 ·exact Sub.mk sJ sJ
 refine WpD.pin (t:=1) (b:=793) rfl oN fun xx0=>?_;refine WpD.pin (t:=2) (b:=543) rfl oN fun blk0=>?_;refine WpD.loop (α:={q:Nat×Nat×Nat×Nat//q.1≤n∧(0<(bO b j q.1).2.length→(bO b j q.1).2.length≤q.2.2.1∧q.2.2.1≤maxLen∧q.2.2.2=q.2.2.1*1)}) (fun q=>⟨[(1,.pin 793 q.1.2.2.2),(2,.pin 543 q.1.2.1),(3,.app 503 1 (dR (bO b j q.1.1)).length),(0,.one (slc 5 (rows (ccs f) n) n)),(6,.one (slc 5 (rows (ccs f) n) n)),(7,.one (i6 n)),(8,.one (i6 q.1.1))],[(503,gcs (bO b j q.1.1).1 (bO b j q.1.1).2 q.1.2.1 q.1.2.2.1),(753,[]),(543,ixP (bO b j q.1.1).2),(793,[])]⟩) (fun q=>n-q.1.1) ⟨(0,blk0,0,xx0),Nat.zero_le _,fun h=>absurd h (Nat.lt_irrefl 0)⟩ ?_ ?_
 ·dsimp only
  exact Sub.mk sJ sJ
 rintro⟨⟨i,blk,cap,xx⟩,hi,hcap⟩;dsimp only at hi hcap ⊢
 by_cases hlt:i<n
 ·have w1:=wS i oM
  have hq:((rows (ccs f) n).drop (i*5)).take 5=[ex (.int .i64 (f i).e),ex (.int .i64 (f i).d),ex (.int .i64 (f i).s),ex (.bool (b i)),ex (.int .i64 (f i).y)]:=by rw[hb];exact bE (bC f) hlt
  cases hbi:b i with
  |false=>
   rw[hbi] at hq;have e1:bO b j (i+1)=bO b j i:=by rw[bO,if_pos hbi]
   refine vS<|vLt jj<|vW jj<|vS<|jm jj<|vD jj hlt hq<|vR jj<|vA jj<|ja jj<|vP jj<|jn<|js<|vS<|vX jj<|jS (bNo jj)<|jn<|jt jj<|je<|jr<|vAd jj w1<|jm jj<|jn ?_;refine⟨⟨(i+1,blk,cap,xx),oD,by dsimp only;rw[e1];exact hcap⟩,?_,oD⟩
   dsimp only;rw[e1];exact Sub.mk sJ sJ
  |true=>
   rw[hbi] at hq;obtain⟨g1,g2⟩:=kU b j i;refine vS<|vLt jj<|vW jj<|vS<|jm jj<|vD jj hlt hq<|vR jj<|vA jj<|ja jj<|vP jj<|jn<|js<|vS<|vX jj<|jS (bNo jj)<|jn<|jf jj<|jp ?_;refine WpD.cut (α:={v:Bool//v=(decide (0<i)&&b (i-1)&&j i)}) (fun v=>⟨[(1,.pin 793 xx),(2,.pin 543 blk),(3,.app 503 1 (dR (bO b j i)).length),(4,.one (i6 i)),(0,.one (slc 5 (rows (ccs f) n) n)),(6,.one (slc 5 (rows (ccs f) n) n)),(7,.one (i6 n)),(8,.one (i6 i)),(37,.one (ex (.bool v.1)))],[(503,gcs (bO b j i).1 (bO b j i).2 blk cap),(753,[]),(543,ixP (bO b j i).2),(793,[])]⟩) ?_ ?_
   ·by_cases hi0:i=0
    ·refine kR ?_
     refine jm jj<|jS (bGf jj jj oM)<|jm jj ?_;refine kG ?_;refine kG ?_;first|refine jg (aY jj jj (fun w=>eR w _ _ _ _ _ _)) ?_|refine jk ?_|refine ju ?_
     first|refine jg (aK jj jj aO aM) ?_|refine jk ?_|refine ju ?_
     first|refine jg (aI jj jj) ?_|refine jk ?_|refine ju ?_
     first|refine jg (aZ jj jj) ?_|refine jk ?_|refine ju ?_
     refine kH ?_;refine jm jj ?_;refine kG ?_;refine kG ?_;first|refine jg (aY jj jj (fun w=>eR w _ _ _ _ _ _)) ?_|refine jk ?_|refine ju ?_
     first|refine jg (aK jj jj aO aM) ?_|refine jk ?_|refine ju ?_
     first|refine jg (aI jj jj) ?_|refine jk ?_|refine ju ?_
     first|refine jg (aZ jj jj) ?_|refine jk ?_|refine ju ?_
     refine kG ?_;refine kG ?_;first|refine jg (aY jj jj (fun w=>eR w _ _ _ _ _ _)) ?_|refine jk ?_|refine ju ?_
     first|refine jg (aY jj jj (fun w=>iR w _ _ _ _ _ _)) ?_|refine jk ?_|refine ju ?_
     refine kH ?_;refine jn ?_;refine⟨⟨false,by rw[decide_eq_false (show ¬0<i by omega)];rfl⟩,?_⟩
     exact Sub.mk sJ sJ
    ·have w2:=wM i oM
     have hl2:i-1<n:=oM;have hq2:((rows (ccs f) n).drop ((i-1)*5)).take 5=[ex (.int .i64 (f (i-1)).e),ex (.int .i64 (f (i-1)).d),ex (.int .i64 (f (i-1)).s),ex (.bool (b (i-1))),ex (.int .i64 (f (i-1)).y)]:=by rw[hb];exact bE (bC f) hl2
     have k1:=H.e0 _ hlt;have k2:=H.e1 _ hlt;have w5:IntKind.i64.wrap ((f i).e-1)=(f i).e-1:=w64 oM oM;have hh:((f (i-1)).e==(f i).e-1)=j i:=by
      rw[hj];unfold oI;show decide _=decide _
      exact decide_eq_decide.2 oM
     cases hb2:b (i-1) with
     |false=>
      rw[hb2] at hq2;refine kR ?_;refine jm jj<|jS (bGt jj jj oM)<|jm jj ?_;refine kG ?_;refine kG ?_;first|refine jg (bSu jj jj w2) ?_|refine jk ?_|refine ju ?_
      first|refine jg (aK jj jj hl2 hq2) ?_|refine jk ?_|refine ju ?_
      first|refine jg (aI jj jj) ?_|refine jk ?_|refine ju ?_
      first|refine jg (aZ jj jj) ?_|refine jk ?_|refine ju ?_
      refine kH ?_;refine jm jj ?_;refine kG ?_;refine kG ?_;first|refine jg (aY jj jj (fun w=>eR w _ _ _ _ _ _)) ?_|refine jk ?_|refine ju ?_
      first|refine jg (aK jj jj aO aM) ?_|refine jk ?_|refine ju ?_
      first|refine jg (aI jj jj) ?_|refine jk ?_|refine ju ?_
      first|refine jg (aZ jj jj) ?_|refine jk ?_|refine ju ?_
      refine kG ?_;refine kG ?_;first|refine jg (aY jj jj (fun w=>eR w _ _ _ _ _ _)) ?_|refine jk ?_|refine ju ?_
      first|refine jg (aY jj jj (fun w=>iR w _ _ _ _ _ _)) ?_|refine jk ?_|refine ju ?_
      refine kH ?_;refine jn ?_;refine⟨⟨false,by simp⟩,?_⟩
      exact Sub.mk sJ sJ
     |true=>
      rw[hb2] at hq2;refine kR ?_;refine jm jj<|jS (bGt jj jj oM)<|jm jj ?_;refine kG ?_;refine kG ?_;first|refine jg (bSu jj jj w2) ?_|refine jk ?_|refine ju ?_
      first|refine jg (aK jj jj hl2 hq2) ?_|refine jk ?_|refine ju ?_
      first|refine jg (aI jj jj) ?_|refine jk ?_|refine ju ?_
      first|refine jg (aZ jj jj) ?_|refine jk ?_|refine ju ?_
      refine kH ?_;refine jm jj ?_;refine kG ?_;refine kG ?_;first|refine jg (bSu jj jj w2) ?_|refine jk ?_|refine ju ?_
      first|refine jg (aK jj jj hl2 hq2) ?_|refine jk ?_|refine ju ?_
      first|refine jg (aI jj jj) ?_|refine jk ?_|refine ju ?_
      first|refine jg (aZ jj jj) ?_|refine jk ?_|refine ju ?_
      refine kG ?_;refine kG ?_;first|refine jg (bSu jj jj w5) ?_|refine jk ?_|refine ju ?_
      first|refine jg (bVq jj jj hh) ?_|refine jk ?_|refine ju ?_
      refine kH ?_;refine jn ?_;refine⟨⟨j i,by rw[decide_eq_true (show 0<i by omega)];simp⟩,?_⟩
      exact Sub.mk sJ sJ
   rintro⟨v,hv⟩;dsimp only;cases v with
   |true=>
    have hv:0<i∧b (i-1)=true∧j i=true:=by simp at hv;exact⟨hv.1.1,hv.1.2,hv.2⟩
    have hne:(bO b j i).2≠[]:=by have:=gZo (b:=b) (j:=j) hv.2.1;rwa[show i-1+1=i by omega] at this
    have e1:bO b j (i+1)=((bO b j i).1,(bO b j i).2++[i]):=by rw[bO,if_neg (by rw[hbi];decide),if_pos hv]
    generalize bO b j i=G at*;obtain⟨I,l⟩:=G;cases l with
    |nil=>exact absurd rfl hne
    |cons a t=>
    have hG:(dR (I,a::t)).length=I.length+1:=by unfold dR;simp
    rw[hG] at g1 ⊢;dsimp only at g2 hcap e1 ⊢;have g2:t.length+1≤i:=g2;have w3:IntKind.i64.wrap (((I.length+1:Nat):Int)-1)=((I.length:Nat):Int):=by rw[w64 oM oM];omega
    have hget:(gcs I (a::t) blk cap)[I.length]? =some (ex (gvl blk (a::t).length cap)):=by
     unfold gcs;rw[List.getElem?_append_right (by simp)]
     simp
    have hlen:(ixP (a::t)).length=(a::t).length*1:=pZ _;have hr:ixP (a::t)++[i6 i]=ixP ((a::t)++[i]):=by unfold ixP;simp
    refine kO ?_;refine WpD.condT rfl ?_;refine kO ?_;refine WpD.seqR ?_;refine WpS.S rfl rfl (eM rfl) rfl ?_;refine WpS.S rfl rfl (eM rfl) rfl ?_;refine WpS.S rfl rfl (fB rfl CSlice.ok) rfl ?_;refine WpS.S rfl rfl (aH rfl rfl (fun w=>eR w _ _ _ _ _ _) (dV w3)) rfl ?_;refine WpS.S rfl rfl (eM rfl) rfl ?_;refine WpS.S rfl rfl (eM rfl) rfl ?_;refine WpS.S rfl rfl (fB rfl CSlice.ok) rfl ?_;refine WpS.S rfl rfl (aH rfl rfl (fun w=>eR w _ _ _ _ _ _) (dV w3)) rfl ?_;refine WpS.S rfl rfl (fF rfl rfl oM (Nat.mul_one I.length)) rfl ?_;refine WpS.S rfl rfl (aX rfl rfl hget) rfl ?_;refine WpS.S rfl rfl (eM rfl) rfl ?_;refine WpS.S rfl rfl (bW (ps:=[(_,_)]) ⟨rfl,Part.c rfl,trivial⟩ rfl rfl rfl) rfl ?_;refine WpS.sub (Sub.toApp (t:=47) (p:=2) (q:=1) (b:=543) (k:=1) (blk:=blk) (len:=(a::t).length) (cap:=cap) (x:=xx) rfl rfl rfl hcap) ?_;refine WpS.S rfl rfl (cC 544 rfl rfl hlen rfl oM (by simp;omega) rfl rfl rfl rfl rfl hr) rfl ?_
    refine WpS.sub (τ:=⟨[(0,.one (slc 5 (rows (ccs f) n) n)),(6,.one (slc 5 (rows (ccs f) n) n)),(7,.one (i6 n)),(8,.one (i6 i)),(3,.app 503 1 (I.length+1)),(38,.app 503 1 (I.length+1)),(41,.one (i6 ((I.length:Nat):Int))),(50,.app 543 1 ((a::t).length+1))],[(503,gcs I (a::t) blk cap),(753,[]),(543,ixP ((a::t)++[i])),(793,[])]⟩) (Sub.ren 543 544 rfl ?_ ?_ rfl) ?_
    ·repeat(first|exact trivial|refine⟨.inl ⟨pK,trivial,trivial⟩,?_⟩|refine⟨.inr ⟨_,_,rfl,.inl rfl,⟨oN,oN⟩⟩,?_⟩|refine⟨.inl ⟨⟨_,rfl,rfl⟩,oN,⟨aD,aD⟩⟩,?_⟩|refine⟨.inl ⟨⟨_,rfl,rfl⟩,⟨oN,oN⟩,⟨aD,aD,aD,aD⟩⟩,?_⟩)
    ·repeat(first|exact trivial|refine⟨.inr ⟨aD,.inr rfl⟩,?_⟩|refine⟨.inl ⟨rfl,_,rfl,PsLe.refl _⟩,?_⟩|refine⟨.inr ⟨aD,.inl ⟨aD,_,rfl,PsLe.refl _⟩⟩,?_⟩)
    refine WpS.fromApp (t:=50) (p:=2) (q:=1) rfl rfl rfl (by simp) fun blk' cap' xx' hc'=>?_
    have hset:(gcs I (a::t) blk cap).set I.length (ex (gvl blk' ((a::t).length+1) cap'))=gcs I ((a::t)++[i]) blk' cap':=by
     unfold gcs;rw[List.set_append_right _ _ (by simp)]
     simp
    refine WpS.S rfl rfl (fF rfl rfl oM (Nat.mul_one I.length)) rfl ?_;refine WpS.N rfl (bX rfl rfl rfl (by rw[gZq,hG];omega) hset) rfl ?_
    refine WpS.nil ?_;refine kR ?_;refine vAd jj w1<|jm jj<|jn ?_;refine⟨⟨(i+1,blk',cap',xx'),oD,by dsimp only;rw[e1];exact fun _=>by simpa using hc'⟩,?_,oD⟩
    dsimp only;rw[e1,show(dR (I,a::t++[i])).length=I.length+1 by unfold dR;simp]
    exact Sub.mk sJ sJ
   |false=>
    have hv:¬(0<i∧b (i-1)=true∧j i=true):=by rintro⟨h1,h2,h3⟩;rw[h2,h3,decide_eq_true h1] at hv;cases hv
    have e1:bO b j (i+1)=(dR (bO b j i),[i]):=by rw[bO,if_neg (by rw[hbi];decide),if_neg hv];rfl
    refine kO ?_;refine WpD.condF rfl ?_;refine WpD.sub (τ:=⟨[(3,.app 503 1 (dR (bO b j i)).length),(4,.one (i6 i)),(0,.one (slc 5 (rows (ccs f) n) n)),(6,.one (slc 5 (rows (ccs f) n) n)),(7,.one (i6 n)),(8,.one (i6 i))],[(503,(dR (bO b j i)).map gP),(753,[])]⟩) ?_ ?_
    ·have hfst:=lY (b:=b) (j:=j) (i:=i)
     generalize bO b j i=G at*;obtain⟨I,l⟩:=G;cases l with
     |nil=>
      have hI:I=[]:=hfst rfl;subst hI;exact Sub.mk sJ sJ
     |cons a t=>
      have hA:dR (I,a::t)=I++[a::t]:=by unfold dR;simp
      obtain⟨q1,q2,_⟩:=hcap (by simp)
      have hm:(I++[a::t]).map gP=I.map gP++[slc 1 (ixP (a::t)) (a::t).length]:=by simp[gP]
      rw[hA,hm];refine Sub.pubLast (b:=543) (d:=503) (p:=2) (k:=1) (len:=(a::t).length) (cap:=cap) (blk:=blk) (L:=I.map gP) (sl:=[(3,.app 503 1 (I++[a::t]).length),(4,.one (i6 i)),(0,.one (slc 5 (rows (ccs f) n) n)),(6,.one (slc 5 (rows (ccs f) n) n)),(7,.one (i6 n)),(8,.one (i6 i))]) (bx0:=[(503,I.map gP++[ex (gvl blk (a::t).length cap)]),(753,[])]) rfl rfl (pZ _) rfl rfl (by simp) q1 q2 ?_ rfl ?_|>.trans ?_
      ·exact⟨.inl pQ,.inl pQ,trivial⟩
      ·repeat(first|exact trivial|refine jv rfl ?_|refine jw rfl (js0 rfl) ?_|refine jw rfl ⟨js0 rfl,js0 rfl⟩ ?_)
      ·exact Sub.mk sJ sJ
    generalize hA:dR (bO b j i)=A at*;have hlen:(A.map gP).length=A.length*1:=by simp
    refine kO ?_;refine WpD.seqR ?_;refine WpS.S rfl rfl (eM rfl) rfl ?_;refine WpS.S rfl rfl (eM rfl) rfl ?_;refine WpS.S rfl rfl (aZ0 543 (ps:=[(_,_)]) ⟨rfl,Part.c rfl,trivial⟩ rfl rfl rfl rfl rfl rfl) rfl ?_;refine WpS.fromApp (t:=54) (p:=2) (q:=1) rfl rfl rfl oM fun blk' cap' xx' hc'=>?_;refine WpS.S rfl rfl (bW (ps:=[(_,_)]) ⟨rfl,Part.c rfl,trivial⟩ rfl rfl rfl) rfl ?_;refine WpS.S rfl rfl (cC 556 rfl rfl hlen rfl oM oM rfl rfl rfl rfl rfl rfl) rfl ?_;refine WpS.S rfl rfl (tT rfl) rfl ?_;refine WpS.sub (τ:=⟨[(1,.pin 793 xx'),(2,.pin 543 blk'),(3,.app 503 1 (A.length+1)),(0,.one (slc 5 (rows (ccs f) n) n)),(6,.one (slc 5 (rows (ccs f) n) n)),(7,.one (i6 n)),(8,.one (i6 i))],[(503,A.map gP++[ex (gvl blk' 1 cap')]),(753,[]),(543,[i6 i]),(793,[])]⟩) (Sub.ren 503 556 rfl ?_ ?_ rfl) ?_
    ·repeat(first|exact trivial|refine⟨.inl ⟨pK,trivial,trivial⟩,?_⟩|refine⟨.inr ⟨_,_,rfl,.inl rfl,⟨oN,oN⟩⟩,?_⟩|refine⟨.inl ⟨⟨_,rfl,rfl⟩,oN,⟨aD,aD⟩⟩,?_⟩|refine⟨.inl ⟨⟨_,rfl,rfl⟩,⟨oN,oN⟩,⟨aD,aD,aD,aD⟩⟩,?_⟩)
    ·repeat(first|exact trivial|refine⟨.inr ⟨aD,.inr rfl⟩,?_⟩|refine⟨.inl ⟨rfl,_,rfl,PsLe.refl _⟩,?_⟩|refine⟨.inr ⟨aD,.inl ⟨aD,_,rfl,PsLe.refl _⟩⟩,?_⟩)
    refine WpS.nil ?_;refine kR ?_;refine vAd jj w1<|jm jj<|jn ?_;refine⟨⟨(i+1,blk',cap',xx'),oD,by dsimp only;rw[e1];exact fun _=>by simpa using hc'⟩,?_,oD⟩
    dsimp only;rw[e1,show(dR (A,[i])).length=A.length+1 by unfold dR;simp]
    exact Sub.mk sJ sJ
 ·have:i=n:=oM
  subst this;have hfst:=lY (b:=b) (j:=j) (i:=i);unfold iA;refine vS<|vLf jj<|jn<|js<|jf jj<|je ?_;refine WpD.sub (τ:=⟨[(3,.one (slc 1 ((dR (bO b j i)).map gP) (dR (bO b j i)).length))],[]⟩) ?_ ?_
  ·generalize bO b j i=G at*
   obtain⟨I,l⟩:=G;cases l with
   |nil=>
    have hI:I=[]:=hfst rfl;subst hI;exact Sub.pub 503 rfl rfl ⟨.inr (.inr (.inl ⟨_,_,_,rfl,rfl,rfl,PLe.refl _⟩)),trivial⟩ trivial rfl
   |cons a t=>
    have hA:dR (I,a::t)=I++[a::t]:=by unfold dR;simp
    obtain⟨q1,q2,_⟩:=hcap (by simp)
    have hm:(I++[a::t]).map gP=I.map gP++[slc 1 (ixP (a::t)) (a::t).length]:=by simp[gP]
    have hl2:(I.map gP++[slc 1 (ixP (a::t)) (a::t).length]).length=(I++[a::t]).length*1:=by simp
    rw[hA,hm];refine(Sub.pubLast (b:=543) (d:=503) (p:=2) (k:=1) (len:=(a::t).length) (cap:=cap) (blk:=blk) (L:=I.map gP) (sl:=[(3,.app 503 1 (I++[a::t]).length)]) (bx0:=[(503,I.map gP++[ex (gvl blk (a::t).length cap)]),(753,[])]) rfl rfl (pZ _) rfl rfl (by simp) q1 q2 ⟨.inl pQ,.inl pQ,trivial⟩ rfl ?_).trans ?_
    ·repeat(first|exact trivial|refine jv rfl ?_|refine jw rfl (js0 rfl) ?_|refine jw rfl ⟨js0 rfl,js0 rfl⟩ ?_)
    ·exact Sub.pub 503 rfl rfl ⟨.inr (.inr (.inl ⟨_,_,_,rfl,rfl,hl2,PLe.refl _⟩)),trivial⟩ trivial rfl
  refine kR ?_;refine jm jj<|vZ jj<|ji ?_;exact rtT rfl jj
end
section
open Go.RowKit Limb Num
instance kb148:CBody PZ 148:=cB Tryz.func148
instance kb150:CBody PZ 150:=cB Tryz.func150
instance kb149:CBody PZ 149:=cB Tryz.func149
instance kb99:CBody PZ 99:=cB Tryz.func99
def ysm(f:Nat→Co)(g:List Nat):Nat→Int
 |0=>0
 |k+1=>ysm f g k+(f (g.getD k 0)).y
theorem hZO{f:Nat→Co}{n:Nat}(hy:∀i,i<n→0≤(f i).y∧(f i).y≤7){g:List Nat}(hg:∀k∈g,k<n):∀{k:Nat},k≤g.length→0≤ysm f g k∧ysm f g k≤(k:Int)*7
 |0,_=>by simp[ysm]
 |k+1,h=>by
  have ih:=hZO hy hg (k:=k) oM;have hk:g.getD k 0∈g:=by simp[List.getD,List.getElem?_eq_getElem (show k<g.length by omega)]
  have:=hy _ (hg _ hk);rw[ysm];omega
section
variable(En:Ev)
theorem iZ2(f:Nat→Co)(n:Nat)(g:List Nat)(hl:g.length≤20)(hg:∀k∈g,k<n)(hy:∀i,i<n→0≤(f i).y∧(f i).y≤7):Fn PZ En 148 [slc 5 (rows (ccs f) n) n,gP g] (i6 (ysm f g g.length%8)):=by
 unfold gP;refine aA Tryz.func148 rfl Tryz.ntmps148 rfl ?_;intro w0 h0;refine vS<|vZ jj<|vS<|vZ jj<|js<|vS<|jm jj<|jE jj<|jm jj<|jn<|jb ?_;refine WpD.loop (α:={k:Nat//k≤g.length}) (fun k=>⟨[(0,.one (slc 5 (rows (ccs f) n) n)),(5,.one (i6 (ysm f g k.1))),(8,.one (slc 1 (ixP g) g.length)),(9,.one (i6 g.length)),(10,.one (i6 k.1))],[]⟩) (fun k=>g.length-k.1) ⟨0,Nat.zero_le _⟩ ?_ ?_
 ·exact Sub.mk sJ sJ
 rintro⟨k,hk⟩;dsimp only at hk ⊢;obtain⟨m1,m2⟩:=hZO hy hg hk
 by_cases hlt:k<g.length
 ·have hqi:=iG hlt
  have hm2:=mC 0 hlt;have hx:=hg _ hm2;have hq:((rows (ccs f) n).drop (g.getD k 0*5)).take 5=coc (f (g.getD k 0)):=bE (bC f) hx;have hb:=hy _ hx;have w3:IntKind.i64.wrap (ysm f g k+(f (g.getD k 0)).y)=ysm f g (k+1):=w64 oM oM;have w4:=wS k oM;generalize g.getD k 0=x at*;refine vS<|vLt jj<|vW jj<|vS<|vD jj hlt hqi<|vT jj<|vZ jj<|jr<|vV jj jj<|jm jj<|vD jj hx hq<|jS (aI jj jj)<|vT jj<|vAd jj w3<|vZ jj<|jr<|vAd jj w4<|jm jj<|jn ?_;refine⟨⟨k+1,oM⟩,?_,oD⟩;exact Sub.mk sJ sJ
 ·have hkn:k=g.length:=oM
  subst hkn;have wm:(ysm f g g.length).tmod 8=ysm f g g.length%8:=Int.tmod_eq_emod_of_nonneg m1;refine vS<|vLf jj<|vU jj<|vS<|jm jj<|jS (bRe jj jj wm)<|vZ jj<|ji ?_;exact rtT rfl jj
theorem bZ8(f:Nat→Co)(n i:Nat)(H:Shp f n):Fn PZ En 150 [slc 5 (rows (ccs f) n) n,i6 i] (gP (cof (aL f n) i)):=by
 have C1:=iZ7 En f n H;have hn:=H.n20;have hG:∀g∈aL f n,g.length≤20:=fun g hg=>Nat.le_trans (mK g hg) hn;have hl:(aL f n).length≤20:=Nat.le_trans (kU _ _ _).1 hn;generalize aL f n=G at*;unfold iA at C1;refine aA Tryz.func150 rfl Tryz.ntmps150 rfl ?_;intro w0 h0;refine vS<|vZ jj<|js<|vS<|jm jj<|vC C1 tA<|jE jj<|jm jj<|jn<|jb ?_;refine WpD.loop (α:={k:Nat//k≤G.length∧cof G i=cof (G.drop k) i}) (fun k=>⟨[(1,.one (i6 i)),(10,.one (slc 1 (G.map gP) G.length)),(11,.one (i6 G.length)),(12,.one (i6 k.1))],[]⟩) (fun k=>G.length-k.1) ⟨0,Nat.zero_le _,rfl⟩ ?_ ?_
 ·exact Sub.mk sJ sJ
 rintro⟨k,hk,he⟩;dsimp only at hk he ⊢
 by_cases hlt:k<G.length
 ·have hq:=rD hlt
  have w1:=wS k oM;have hmem:=mC [] hlt;rw[iB (d:=[]) hlt,cof] at he;have hgl:=hG _ hmem;generalize G.getD k []=g at*;unfold gP at hq;refine vS<|vLt jj<|vW jj<|vS<|vD jj hlt hq<|vT jj<|vZ jj<|vS<|jm jj<|jE jj<|jm jj<|jn<|jb ?_;refine WpD.loop (α:={j:Nat//j≤g.length∧(i∈g↔i∈g.drop j)}) (fun j=>⟨[(1,.one (i6 i)),(6,.one (slc 1 (ixP g) g.length)),(10,.one (slc 1 (G.map gP) G.length)),(11,.one (i6 G.length)),(12,.one (i6 k)),(16,.one (slc 1 (ixP g) g.length)),(17,.one (i6 g.length)),(18,.one (i6 j.1))],[]⟩) (fun j=>g.length-j.1) ⟨0,Nat.zero_le _,Iff.rfl⟩ ?_ ?_
  ·exact Sub.mk sJ sJ
  rintro⟨j,hj,hji⟩;dsimp only at hj hji ⊢
  by_cases hlj:j<g.length
  ·have hqi:=iG hlj
   have w4:=wS j oM;rw[iB (d:=0) hlj,List.mem_cons] at hji;generalize g.getD j 0=x at*
   by_cases hx:i=x
   ·have hig:i∈g:=hji.2 (.inl hx)
    rw[if_pos hig] at he;rw[he];have hx':(x:Int)=(i:Int):=oM;refine vS<|vLt jj<|vW jj<|vS<|vD jj hlj hqi<|vT jj<|vZ jj<|vS<|vV jj jj<|vEt jj<|jn<|jt jj<|vS<|jm jj<|vZ jj<|ji ?_;exact rtT rfl jj
   ·have hx':(x:Int)≠(i:Int):=oM
    refine vS<|vLt jj<|vW jj<|vS<|vD jj hlj hqi<|vT jj<|vZ jj<|vS<|vV jj jj<|vEf jj<|jn<|jf jj<|jp<|jr<|vAd jj w4<|jm jj<|jn ?_;refine⟨⟨j+1,oM,hji.trans ⟨fun h=>h.resolve_left hx,.inr⟩⟩,?_,oD⟩;exact Sub.mk sJ sJ
  ·have hni:i∉g:=fun h=>by have:=hji.1 h;rw[List.drop_of_length_le oM] at this;cases this
   rw[if_neg hni] at he;refine vS<|vLf jj<|vU jj<|jr<|vAd jj w1<|jm jj<|jn ?_;refine⟨⟨k+1,oM,he⟩,?_,oD⟩;exact Sub.mk sJ sJ
 ·rw[List.drop_of_length_le oM,cof] at he
  rw[he];refine vS<|vLf jj<|vU jj<|vS<|vZ jj<|ji ?_;exact wD rfl (.tmp rfl) jZE
theorem rbad(f:Nat→Co)(n:Nat)(g:List Nat)(hg:∀i∈g,i<n)(hy:∀i,i<n→0≤(f i).y∧(f i).y≤7):Fn PZ En 149 [slc 5 (rows (ccs f) n) n,gP g] (ex (.bool (decide (¬kD f g)))):=by
 by_cases h2:g.length=2
 ·obtain⟨a,b,rfl⟩:∃a b,g=[a,b]:=by
   match g,h2 with
   |[a,b],_=>exact⟨a,b,rfl⟩
  have ha:=hg a (by simp)
  have hb:=hg b (by simp)
  have hqa:((rows (ccs f) n).drop (a*5)).take 5=coc (f a):=bE (bC f) ha;have hqb:((rows (ccs f) n).drop (b*5)).take 5=coc (f b):=bE (bC f) hb;have y1:=hy a ha;have y2:=hy b hb;have C1:=iZ2 En f n [a,b] (by simp) hg hy
  have hys:ysm f [a,b] [a,b].length=(f a).y+(f b).y:=by simp[ysm]
  rw[hys] at C1;have w2:(((f a).y+(f b).y)%8).tmod 4=((f a).y+(f b).y)%4:=by rw[Int.tmod_eq_emod_of_nonneg oM];omega
  have hG:(¬kD f [a,b])↔((f a).d=1∧(f b).d=1∧((f a).y+(f b).y)%4=0):=by unfold kD;simp
  rw[show decide (¬kD f [a,b])=_ from decide_eq_decide.2 hG]
  unfold gP at*
  by_cases d1:(f a).d=1
  ·by_cases d2:(f b).d=1
   ·by_cases d3:((f a).y+(f b).y)%4=0
    ·rw[decide_eq_true ⟨d1,d2,d3⟩]
     refine aA Tryz.func149 rfl Tryz.ntmps149 rfl ?_;intro w0 h0;refine vS<|vZ jj<|vS<|jm jj<|jE jj<|vEt jj<|jm jj<|jgm jj<|jgm jj<|jg (aK (i:=0) jj jj (by simp) jj)<|jg (aZ jj jj)<|jg (aK jj jj ha hqa)<|jg (aI jj jj)<|jg (aZ jj jj)<|uEt jj<|vq jj<|jm jj<|jgm jj<|jgm jj<|jg (aK (i:=1) jj jj (by simp) jj)<|jg (aZ jj jj)<|jg (aK jj jj hb hqb)<|jg (aI jj jj)<|jg (aZ jj jj)<|uEt jj<|vq jj<|jm jj<|jgm jj<|jgm jj<|jg (aQ C1 tB)<|jg (bRe jj jj w2)<|uEt jj<|vq jj<|vZ jj<|ji ?_
     exact rtT rfl jj
    ·rw[decide_eq_false (fun h=>d3 h.2.2)]
     refine aA Tryz.func149 rfl Tryz.ntmps149 rfl ?_;intro w0 h0;refine vS<|vZ jj<|vS<|jm jj<|jE jj<|vEt jj<|jm jj<|jgm jj<|jgm jj<|jg (aK (i:=0) jj jj (by simp) jj)<|jg (aZ jj jj)<|jg (aK jj jj ha hqa)<|jg (aI jj jj)<|jg (aZ jj jj)<|uEt jj<|vq jj<|jm jj<|jgm jj<|jgm jj<|jg (aK (i:=1) jj jj (by simp) jj)<|jg (aZ jj jj)<|jg (aK jj jj hb hqb)<|jg (aI jj jj)<|jg (aZ jj jj)<|uEt jj<|vq jj<|jm jj<|jgm jj<|jgm jj<|jg (aQ C1 tB)<|jg (bRe jj jj w2)<|uEf jj<|vq jj<|vZ jj<|ji ?_
     exact rtT rfl jj
   ·rw[decide_eq_false (fun h=>d2 h.2.1)]
    refine aA Tryz.func149 rfl Tryz.ntmps149 rfl ?_;intro w0 h0;refine vS<|vZ jj<|vS<|jm jj<|jE jj<|vEt jj<|jm jj<|jgm jj<|jgm jj<|jg (aK (i:=0) jj jj (by simp) jj)<|jg (aZ jj jj)<|jg (aK jj jj ha hqa)<|jg (aI jj jj)<|jg (aZ jj jj)<|uEt jj<|vq jj<|jm jj<|jgm jj<|jgm jj<|jg (aK (i:=1) jj jj (by simp) jj)<|jg (aZ jj jj)<|jg (aK jj jj hb hqb)<|jg (aI jj jj)<|jg (aZ jj jj)<|uEf jj<|vq jj<|jm jj<|jk<|jk<|jk<|jk<|jk<|vQ jj<|vZ jj<|ji ?_
    exact rtT rfl jj
  ·rw[decide_eq_false (fun h=>d1 h.1)]
   refine aA Tryz.func149 rfl Tryz.ntmps149 rfl ?_;intro w0 h0;refine vS<|vZ jj<|vS<|jm jj<|jE jj<|vEt jj<|jm jj<|jgm jj<|jgm jj<|jg (aK (i:=0) jj jj (by simp) jj)<|jg (aZ jj jj)<|jg (aK jj jj ha hqa)<|jg (aI jj jj)<|jg (aZ jj jj)<|uEf jj<|vq jj<|jm jj<|jk<|jk<|jk<|jk<|jk<|jk<|jk<|jk<|vQ jj<|jm jj<|jk<|jk<|jk<|jk<|jk<|vQ jj<|vZ jj<|ji ?_
   exact rtT rfl jj
 ·rw[decide_eq_false (fun h=>h (.inl h2))]
  have h2':((g.length:Nat):Int)≠2:=oM;unfold gP;refine aA Tryz.func149 rfl Tryz.ntmps149 rfl ?_;intro w0 h0;refine vS<|vZ jj<|vS<|jm jj<|jE jj<|vEf jj<|jm jj<|jk<|jk<|jk<|jk<|jk<|jk<|jk<|jk<|vQ jj<|jm jj<|jk<|jk<|jk<|jk<|jk<|jk<|jk<|jk<|vQ jj<|jm jj<|jk<|jk<|jk<|jk<|jk<|vQ jj<|vZ jj<|ji ?_;exact rtT rfl jj
theorem lZx(f:Nat→Co)(n i:Nat)(H:Shp f n)(hy:∀i,i<n→0≤(f i).y∧(f i).y≤7)(hi:i<n)(h0i:0<i):Fn PZ En 99 [slc 5 (rows (ccs f) n) n,i6 i] (ex (.bool (lnk f n i))):=by
 have hn:=H.n20;have hi2:i-1<n:=oM;have hq2:((rows (ccs f) n).drop (i*5)).take 5=coc (f i):=bE (bC f) hi;have hq1:((rows (ccs f) n).drop ((i-1)*5)).take 5=coc (f (i-1)):=bE (bC f) hi2;have b1:=H.e0 _ hi2;have b2:=H.e1 _ hi2;have b3:=H.e0 _ hi;have b4:=H.e1 _ hi;have w1:=wM i oM;have w2:IntKind.i64.wrap ((f i).e-(f (i-1)).e)=(f i).e-(f (i-1)).e:=w64 oM oM;have C1:=bZ8 En f n i H;have C2:=rbad En f n (cof (aL f n) i) (fun k hk=>by
  rcases oF (aL f n) i with h|h
  ·rw[h] at hk;cases hk
  ·exact lM _ h k hk) hy
 have hnot:(!decide (¬kD f (cof (aL f n) i)))=decide (kD f (cof (aL f n) i)):=by simp
 have bt:(true !=true)=false:=rfl;have bf:(false !=false)=false:=rfl;have btf:(true !=false)=true:=rfl;have bft:(false !=true)=true:=rfl;unfold lnk;unfold coc at hq1 hq2
 by_cases d1:(f i).e-(f (i-1)).e=1
 ·rw[if_pos d1]
  cases ho1:(f (i-1)).o with
  |true=>
   rw[ho1] at hq1;cases ho2:(f i).o with
   |true=>
    rw[ho2] at hq2;rw[if_pos ⟨rfl,rfl⟩,←hnot];refine aA Tryz.func99 rfl Tryz.ntmps99 rfl ?_;intro w0 h0;refine vS<|vZ jj<|vS<|vV jj jj<|vSu jj w1<|vD jj hi2 hq1<|vR jj<|vV jj jj<|vD jj hi hq2<|vR jj<|vA jj<|vA jj<|vP jj<|vP jj<|jn<|js<|vS<|vX jj<|vX jj<|vSu jj w2<|jn<|jb<|vS<|vEt jj<|vZ jj<|jt jj<|vS<|vX jj<|vX jj<|jS (aH jj jj (fun w=>nR w CBool.ok _ _ _ _) (dH bt))<|jm jj<|vY jj<|jgm jj<|jgm jj<|jgm jj<|jgm jj<|jg (aQ C1 tB)<|jg (aQ C2 tB)<|jg (bNo jj)<|jg (dE jj jj)<|vQ jj<|vZ jj ?_;refine ji ?_;exact rtT rfl jj
   |false=>
    rw[ho2] at hq2;rw[if_neg (by simp)]
    refine aA Tryz.func99 rfl Tryz.ntmps99 rfl ?_;intro w0 h0;refine vS<|vZ jj<|vS<|vV jj jj<|vSu jj w1<|vD jj hi2 hq1<|vR jj<|vV jj jj<|vD jj hi hq2<|vR jj<|vA jj<|vA jj<|vP jj<|vP jj<|jn<|js<|vS<|vX jj<|vX jj<|vSu jj w2<|jn<|jb<|vS<|vEt jj<|vZ jj<|jt jj<|vS<|vX jj<|vX jj<|jS (aH jj jj (fun w=>nR w CBool.ok _ _ _ _) (dH btf))<|jm jj<|jk<|jk<|jk<|ju<|ju<|ju<|ju<|ju<|ju<|jk<|vq jj<|vZ jj ?_;refine ji ?_;exact rtT rfl jj
  |false=>
   rw[ho1] at hq1;cases ho2:(f i).o with
   |true=>
    rw[ho2] at hq2;rw[if_neg (by simp)]
    refine aA Tryz.func99 rfl Tryz.ntmps99 rfl ?_;intro w0 h0;refine vS<|vZ jj<|vS<|vV jj jj<|vSu jj w1<|vD jj hi2 hq1<|vR jj<|vV jj jj<|vD jj hi hq2<|vR jj<|vA jj<|vA jj<|vP jj<|vP jj<|jn<|js<|vS<|vX jj<|vX jj<|vSu jj w2<|jn<|jb<|vS<|vEt jj<|vZ jj<|jt jj<|vS<|vX jj<|vX jj<|jS (aH jj jj (fun w=>nR w CBool.ok _ _ _ _) (dH bft))<|jm jj<|jk<|jk<|jk<|ju<|ju<|ju<|ju<|ju<|ju<|jk<|vq jj<|vZ jj ?_;refine ji ?_;exact rtT rfl jj
   |false=>
    rw[ho2] at hq2;rw[if_neg (by simp)]
    refine aA Tryz.func99 rfl Tryz.ntmps99 rfl ?_;intro w0 h0;refine vS<|vZ jj<|vS<|vV jj jj<|vSu jj w1<|vD jj hi2 hq1<|vR jj<|vV jj jj<|vD jj hi hq2<|vR jj<|vA jj<|vA jj<|vP jj<|vP jj<|jn<|js<|vS<|vX jj<|vX jj<|vSu jj w2<|jn<|jb<|vS<|vEt jj<|vZ jj<|jt jj<|vS<|vX jj<|vX jj<|jS (aH jj jj (fun w=>nR w CBool.ok _ _ _ _) (dH bf))<|jm jj<|vY jj<|jgm jj<|jk<|jk<|jk<|jk<|jk<|jk<|jg (bZ jj jj)<|vQ jj<|vZ jj ?_;refine ji ?_;exact rtT rfl jj
 ·rw[if_neg d1]
  by_cases d2:(f i).e-(f (i-1)).e=2
  ·rw[if_pos d2]
   cases ho1:(f (i-1)).o with
   |true=>
    rw[ho1] at hq1;cases ho2:(f i).o with
    |true=>
     rw[ho2] at hq2;refine aA Tryz.func99 rfl Tryz.ntmps99 rfl ?_;intro w0 h0;refine vS<|vZ jj<|vS<|vV jj jj<|vSu jj w1<|vD jj hi2 hq1<|vR jj<|vV jj jj<|vD jj hi hq2<|vR jj<|vA jj<|vA jj<|vP jj<|vP jj<|jn<|js<|vS<|vX jj<|vX jj<|vSu jj w2<|jn<|jb<|vS<|vEf jj<|vZ jj<|jf jj<|vS<|vEt jj<|vZ jj ?_;refine jt jj<|vS<|vX jj<|jm jj<|vY jj<|vq jj<|vZ jj<|ji ?_;exact rtT rfl jj
    |false=>
     rw[ho2] at hq2;refine aA Tryz.func99 rfl Tryz.ntmps99 rfl ?_;intro w0 h0;refine vS<|vZ jj<|vS<|vV jj jj<|vSu jj w1<|vD jj hi2 hq1<|vR jj<|vV jj jj<|vD jj hi hq2<|vR jj<|vA jj<|vA jj<|vP jj<|vP jj<|jn<|js<|vS<|vX jj<|vX jj<|vSu jj w2<|jn<|jb<|vS<|vEf jj<|vZ jj<|jf jj<|vS<|vEt jj<|vZ jj ?_;refine jt jj<|vS<|vX jj<|jm jj<|vY jj<|vq jj<|vZ jj<|ji ?_;exact rtT rfl jj
   |false=>
    rw[ho1] at hq1;refine aA Tryz.func99 rfl Tryz.ntmps99 rfl ?_;intro w0 h0;refine vS<|vZ jj<|vS<|vV jj jj<|vSu jj w1<|vD jj hi2 hq1<|vR jj<|vV jj jj<|vD jj hi hq2<|vR jj<|vA jj<|vA jj<|vP jj<|vP jj<|jn<|js<|vS<|vX jj<|vX jj<|vSu jj w2<|jn<|jb<|vS<|vEf jj<|vZ jj<|jf jj<|vS<|vEt jj<|vZ jj ?_;refine jt jj<|vS<|vX jj<|jm jj<|jk<|jk<|vQ jj<|vZ jj<|ji ?_;exact rtT rfl jj
  ·rw[if_neg d2]
   refine aA Tryz.func99 rfl Tryz.ntmps99 rfl ?_;intro w0 h0;refine vS<|vZ jj<|vS<|vV jj jj<|vSu jj w1<|vD jj hi2 hq1<|vR jj<|vV jj jj<|vD jj hi hq2<|vR jj<|vA jj<|vA jj<|vP jj<|vP jj<|jn<|js<|vS<|vX jj<|vX jj<|vSu jj w2<|jn<|jb<|vS<|vEf jj<|vZ jj<|jf jj<|vS<|vEf jj<|vZ jj ?_;refine jf jj<|jp<|vS<|vZ jj<|ji ?_;exact rtT rfl jj
end
end
section
open Go.RowKit Limb Num
def sgU(f:Nat→Co):Nat→Prop
 |0=>True
 |i+1=>sgU f i∧((f i).s=1∨(f i).s= -1)
instance lZk(f:Nat→Co):∀n,Decidable (sgU f n)
 |0=> .isTrue trivial
 |n+1=>by unfold sgU;have:=lZk f n;infer_instance
theorem iZr{f:Nat→Co}:∀{n i:Nat},i≤n→sgU f n→sgU f i
 |0,i,h,hs=>by rw[show i=0 by omega];exact hs
 |n+1,i,h,hs=>by
  by_cases e:i=n+1
  ·rw[e];exact hs
  ·exact iZr oM hs.1
def aZj(f:Nat→Co)(n:Nat):Prop:=n≠0∧shU f n∧sgU f n
instance(f:Nat→Co)(n:Nat):Decidable (aZj f n):=by unfold aZj;infer_instance
theorem hZu(f:Nat→Co){i:Nat}(h:i≠0):iN f i=(f (i-1)).e:=by unfold iN;rw[if_neg h]
section
variable(En:Ev)
theorem lZw(f:Nat→Co)(n:Nat)(hn:n≤1000)(hT:aZj f n):Fn PZ En 177 [slc 5 (rows (ccs f) n) n] (ex (.bool (decide (aZj f n)))):=by
 have key1:∀i,i<n→¬shU f (i+1)→¬aZj f n:=fun i hi h h'=>h (xO oM h'.2.1);have key2:∀i,i<n→¬sgU f (i+1)→¬aZj f n:=fun i hi h h'=>h (iZr oM h'.2.2);refine aA Tryz.func177 rfl Tryz.ntmps177 rfl ?_;intro w0 h0;refine vS<|vZ jj<|vS<|vZ jj<|js<|vS<|jm jj<|jE jj<|jm jj<|jn<|jb ?_;refine WpD.loop (α:={i:Nat//i≤n∧shU f i∧sgU f i}) (fun i=>⟨[(0,.one (slc 5 (rows (ccs f) n) n)),(3,.one (i6 (dJ f i.1))),(6,.one (slc 5 (rows (ccs f) n) n)),(7,.one (i6 n)),(8,.one (i6 i.1))],[]⟩) (fun i=>n-i.1) ⟨0,Nat.zero_le _,trivial,trivial⟩ ?_ ?_
 ·exact Sub.mk sJ sJ
 rintro⟨i,hi,hs,hg⟩;dsimp only at hi hs hg ⊢;obtain⟨s1,s2,s3,s4⟩:=qS hs
 by_cases hlt:i<n
 ·have hq:((rows (ccs f) n).drop (i*5)).take 5=coc (f i):=bE (bC f) hlt
  have w1:=wS i oM;have w2:IntKind.i64.wrap (8-dJ f i)=8-dJ f i:=w64 oM oM
  by_cases c0:(f i).e<0
  ·exact absurd hT (key1 i hlt fun h=>by have:=h.2.1;omega)
  by_cases c2:(f i).e>60
  ·exact absurd hT (key1 i hlt fun h=>by have:=h.2.2.1;omega)
  by_cases h0i:i=0
  ·have h0i':(i:Int)=0:=oM
   have hle:iN f i= -1:=by rw[h0i];rfl
   by_cases g0:(f i).s=1
   ·have c5:(f i).s=1∨(f i).s= -1:= .inl g0
    by_cases c3:(f i).d<1
    ·exact absurd hT (key1 i hlt fun h=>by have:=h.2.2.2.1;omega)
    by_cases c4:(f i).d>8-dJ f i
    ·exact absurd hT (key1 i hlt fun h=>by have:=h.2.2.2.2;omega)
    have w3:IntKind.i64.wrap (dJ f i+(f i).d)=dJ f (i+1):=w64 oM oM;refine vS<|vLt jj<|vW jj<|vS<|jm jj<|vD jj hlt hq<|vR jj<|vA jj<|ja jj<|vP jj<|jn<|js<|vS<|vX jj<|vLf jj<|jm jj<|vY jj<|uGf jj<|vQ jj<|jm jj<|jgm jj<|uGf jj<|jgm jj<|jk<|jk<|jk<|jk<|jk<|jk<|jk<|jk<|jk<|jg (bZ jj jj)<|vQ jj<|jm jj<|vY jj<|uNf jj<|jgm jj<|jk<|jk<|jk<|jg (bZ jj jj)<|vQ jj<|jm jj<|vY jj<|uLf jj<|vQ jj<|jm jj<|vY jj<|jgm jj<|jg (bSu jj jj w2)<|uGf jj<|vQ jj<|jn ?_;refine jf jj<|jp<|jr<|jm jj<|vX jj<|vAd jj w3<|vZ jj<|jr<|vAd jj w1<|jm jj<|jn ?_;refine⟨⟨i+1,oM,⟨hs,oM,oM,oM,oM⟩,hg,c5⟩,?_,oD⟩;exact Sub.mk sJ sJ
   by_cases g1:(f i).s= -1
   ·have c5:(f i).s=1∨(f i).s= -1:= .inr g1
    by_cases c3:(f i).d<1
    ·exact absurd hT (key1 i hlt fun h=>by have:=h.2.2.2.1;omega)
    by_cases c4:(f i).d>8-dJ f i
    ·exact absurd hT (key1 i hlt fun h=>by have:=h.2.2.2.2;omega)
    have w3:IntKind.i64.wrap (dJ f i+(f i).d)=dJ f (i+1):=w64 oM oM;refine vS<|vLt jj<|vW jj<|vS<|jm jj<|vD jj hlt hq<|vR jj<|vA jj<|ja jj<|vP jj<|jn<|js<|vS<|vX jj<|vLf jj<|jm jj<|vY jj<|uGf jj<|vQ jj<|jm jj<|jgm jj<|uGf jj<|jgm jj<|jk<|jk<|jk<|jk<|jk<|jk<|jk<|jk<|jk<|jg (bZ jj jj)<|vQ jj<|jm jj<|vY jj<|uNt jj<|jgm jj<|vY jj<|uNf jj<|jg (dE jj jj)<|vQ jj<|jm jj<|vY jj<|uLf jj<|vQ jj<|jm jj<|vY jj<|jgm jj<|jg (bSu jj jj w2)<|uGf jj<|vQ jj<|jn ?_;refine jf jj<|jp<|jr<|jm jj<|vX jj<|vAd jj w3<|vZ jj<|jr<|vAd jj w1<|jm jj<|jn ?_;refine⟨⟨i+1,oM,⟨hs,oM,oM,oM,oM⟩,hg,c5⟩,?_,oD⟩;exact Sub.mk sJ sJ
   exact absurd hT (key2 i hlt fun h=>by have:=h.2;omega)
  ·have hl2:i-1<n:=oM
   have hq2:((rows (ccs f) n).drop ((i-1)*5)).take 5=coc (f (i-1)):=bE (bC f) hl2;have w4:=wM i oM;have hle:=hZu f h0i
   by_cases c1:(f i).e≤(f (i-1)).e
   ·exact absurd hT (key1 i hlt fun h=>by have:=h.2.1;omega)
   by_cases g0:(f i).s=1
   ·have c5:(f i).s=1∨(f i).s= -1:= .inl g0
    by_cases c3:(f i).d<1
    ·exact absurd hT (key1 i hlt fun h=>by have:=h.2.2.2.1;omega)
    by_cases c4:(f i).d>8-dJ f i
    ·exact absurd hT (key1 i hlt fun h=>by have:=h.2.2.2.2;omega)
    have w3:IntKind.i64.wrap (dJ f i+(f i).d)=dJ f (i+1):=w64 oM oM;refine vS<|vLt jj<|vW jj<|vS<|jm jj<|vD jj hlt hq<|vR jj<|vA jj<|ja jj<|vP jj<|jn<|js<|vS<|vX jj<|vLf jj<|jm jj<|vY jj<|uGf jj<|vQ jj<|jm jj<|jgm jj<|uGt jj<|jgm jj<|vY jj<|jgm jj<|jgm jj<|jg (bSu jj jj w4)<|jg (aK jj jj hl2 hq2)<|jg (aI jj jj)<|jg (aZ jj jj)<|jg (bMf jj jj)<|jg (dE jj jj)<|vQ jj<|jm jj<|vY jj<|uNf jj<|jgm jj<|jk<|jk<|jk<|jg (bZ jj jj)<|vQ jj<|jm jj<|vY jj<|uLf jj<|vQ jj<|jm jj<|vY jj<|jgm jj<|jg (bSu jj jj w2)<|uGf jj<|vQ jj<|jn ?_;refine jf jj<|jp<|jr<|jm jj<|vX jj<|vAd jj w3<|vZ jj<|jr<|vAd jj w1<|jm jj<|jn ?_;refine⟨⟨i+1,oM,⟨hs,oM,oM,oM,oM⟩,hg,c5⟩,?_,oD⟩;exact Sub.mk sJ sJ
   by_cases g1:(f i).s= -1
   ·have c5:(f i).s=1∨(f i).s= -1:= .inr g1
    by_cases c3:(f i).d<1
    ·exact absurd hT (key1 i hlt fun h=>by have:=h.2.2.2.1;omega)
    by_cases c4:(f i).d>8-dJ f i
    ·exact absurd hT (key1 i hlt fun h=>by have:=h.2.2.2.2;omega)
    have w3:IntKind.i64.wrap (dJ f i+(f i).d)=dJ f (i+1):=w64 oM oM;refine vS<|vLt jj<|vW jj<|vS<|jm jj<|vD jj hlt hq<|vR jj<|vA jj<|ja jj<|vP jj<|jn<|js<|vS<|vX jj<|vLf jj<|jm jj<|vY jj<|uGf jj<|vQ jj<|jm jj<|jgm jj<|uGt jj<|jgm jj<|vY jj<|jgm jj<|jgm jj<|jg (bSu jj jj w4)<|jg (aK jj jj hl2 hq2)<|jg (aI jj jj)<|jg (aZ jj jj)<|jg (bMf jj jj)<|jg (dE jj jj)<|vQ jj<|jm jj<|vY jj<|uNt jj<|jgm jj<|vY jj<|uNf jj<|jg (dE jj jj)<|vQ jj<|jm jj<|vY jj<|uLf jj<|vQ jj<|jm jj<|vY jj<|jgm jj<|jg (bSu jj jj w2)<|uGf jj<|vQ jj<|jn ?_;refine jf jj<|jp<|jr<|jm jj<|vX jj<|vAd jj w3<|vZ jj<|jr<|vAd jj w1<|jm jj<|jn ?_;refine⟨⟨i+1,oM,⟨hs,oM,oM,oM,oM⟩,hg,c5⟩,?_,oD⟩;exact Sub.mk sJ sJ
   exact absurd hT (key2 i hlt fun h=>by have:=h.2;omega)
 ·have hin:i=n:=oM
  subst hin
  by_cases hn0:i=0
  ·exact absurd hT (fun h:aZj f i=>h.1 hn0)
  ·rw[decide_eq_true (show aZj f i from⟨hn0,hs,hg⟩)]
   refine vS<|vLf jj<|vU jj<|vS<|jm jj<|vGt jj<|vZ jj<|ji ?_;exact rtT rfl jj
end
end
section
open Go.RowKit Limb Num
theorem wQ{f:Nat→Co}:∀{m:Nat},sgU f m↔∀i,i<m→(f i).s=1∨(f i).s= -1
 |0=>by unfold sgU;exact⟨fun _ k h=>absurd h (Nat.not_lt_zero _),fun _=>trivial⟩
 |m+1=>by
  unfold sgU;rw[wQ];constructor
  ·rintro⟨a,b⟩ k hk
   rcases Nat.lt_or_ge k m with h|h
   ·exact a k h
   ·rw[show k=m by omega];exact b
  ·intro h;exact⟨fun k hk=>h k oM,h m oM⟩
theorem cZn{f:Nat→Co}:∀{m:Nat},fuU f m↔∀i,i<m→iU (f i)
 |0=>by unfold fuU;exact⟨fun _ k h=>absurd h (Nat.not_lt_zero _),fun _=>trivial⟩
 |m+1=>by
  unfold fuU;rw[cZn];constructor
  ·rintro⟨a,b⟩ k hk
   rcases Nat.lt_or_ge k m with h|h
   ·exact a k h
   ·rw[show k=m by omega];exact b
  ·intro h;exact⟨fun k hk=>h k oM,h m oM⟩
section
variable(En:Ev)
end
end
section
open Go.RowKit Limb Num
section
variable(En:Ev)
end
end
section
open Go.RowKit Limb Num
end
section
open Go.RowKit Limb Num
instance kb128:CBody PZ 128:=cB Tryz.func128
def fiP(f:Nat→Co)(G:List (List Nat)):Prop:=∀g∈G,∀k∈g.drop 1,(f k).s≠-1
instance(f:Nat→Co)(G:List (List Nat)):Decidable (fiP f G):=by unfold fiP;infer_instance
theorem jZO{f:Nat→Co}{g:List Nat}{G:List (List Nat)}:fiP f (g::G)↔(∀k∈g.drop 1,(f k).s≠-1)∧fiP f G:=by unfold fiP;simp
theorem pZ6{f:Nat→Co}{n:Nat}:∀g∈chn f n,g≠[]:=fun g hg=>tH g hg
section
variable(En:Ev)
theorem lZa(p:Int)(f:Nat→Co)(n:Nat)(hn:n≤20)(r:Bool)(hT:lD p f n∧fiP f (chn f n)∧r=true)(xa xb:Pd)[C1 xa][C1 xb](hR:lD p f n→Fn PZ En 168 [cO p f n] (dK [cD [xa,xb],ex (.bool r)])):
  Fn PZ En 128 [cO p f n] (ex (.bool (decide (lD p f n∧fiP f (chn f n)∧r=true)))):=by
 have C0:=lZb En p f n hn hT.1
 by_cases hfu:lD p f n
 ·rw[decide_eq_true hfu] at C0
  have hsU:=hfu.1.2.2;have H:Shp f n:=⟨hn,fun k hk=>(dX hsU hk).1,fun k hk=>(dX hsU hk).2.1⟩;have hy:∀i,i<n→0≤(f i).y∧(f i).y≤7:=fun i hi=>⟨(gH hfu.2.1 hi).2.1,(gH hfu.2.1 hi).2.2.1⟩;have C1:=kZT En p f n H hy;have C2:=hR hfu;have hGi:∀g∈chn f n,g.length≤20:=fun g hg=>Nat.le_trans (mK g hg) hn;have hGt:∀g∈chn f n,∀k∈g,k<n:=fun g hg=>lM g hg;have hl:(chn f n).length≤20:=Nat.le_trans (kU _ _ _).1 hn;unfold cO iA at*;refine aA Tryz.func128 rfl Tryz.ntmps128 rfl ?_;intro w0 h0;refine vS<|vB jj<|vZ jj<|js<|vS<|vL jj<|vC C0 ⟨jj,trivial⟩<|jS (bNo jj)<|jn<|jf jj<|jp<|js<|vS<|vL jj<|vC C1 ⟨jj,trivial⟩<|jE jj<|jm jj<|jn<|jb ?_;refine WpD.loop (α:={k:Nat//k≤(chn f n).length∧(fiP f (chn f n)↔fiP f ((chn f n).drop k))}) (fun k=>⟨[(1,.ptr 1 0),(13,.one (slc 1 ((chn f n).map gP) (chn f n).length)),(14,.one (i6 ((chn f n).length:Int))),(15,.one (i6 k.1))],[(1,[i6 p,slc 5 (rows (ccs f) n) n])]⟩) (fun k=>(chn f n).length-k.1) ⟨0,Nat.zero_le _,Iff.rfl⟩ ?_ ?_
  ·exact Sub.mk sJ sJ
  rintro⟨k,hk,he⟩;dsimp only at hk he ⊢
  by_cases hlt:k<(chn f n).length
  ·have hq:=rD hlt
   have w1:=wS k oM;have hmem:=mC [] hlt;rw[iB (d:=[]) hlt,jZO] at he;have n1:=hGi _ hmem;have n2:=hGt _ hmem;have n3:=pZ6 _ hmem;generalize(chn f n).getD k []=g at*;obtain⟨a,t,rfl⟩:∃a t,g=a::t:=by
    cases g with
    |nil=>exact absurd rfl n3
    |cons a t=>exact⟨a,t,rfl⟩
   rw[show(a::t).drop 1=t from rfl] at he
   have hdr:(ixP (a::t)).drop (1*1)=ixP t:=rfl;have h1l:1≤(a::t).length:=by simp
   unfold gP at hq;refine vS<|vLt jj<|vW jj<|vS<|vD jj hlt hq<|vT jj<|vZ jj<|vS<|jm jj<|jS (qV (j:=1) jj jj h1l hdr)<|jE jj<|jm jj<|jn<|jb ?_;rw[show(a::t).length-1=t.length from rfl]
   refine WpD.loop (α:={j:Nat//j≤t.length∧((∀k∈t,(f k).s≠-1)↔(∀k∈t.drop j,(f k).s≠-1))}) (fun j=>⟨[(1,.ptr 1 0),(13,.one (slc 1 ((chn f n).map gP) (chn f n).length)),(14,.one (i6 ((chn f n).length:Int))),(15,.one (i6 k)),(20,.one (slc 1 (ixP t) t.length)),(21,.one (i6 t.length)),(22,.one (i6 j.1))],[(1,[i6 p,slc 5 (rows (ccs f) n) n])]⟩) (fun j=>t.length-j.1) ⟨0,Nat.zero_le _,Iff.rfl⟩ ?_ ?_
   ·exact Sub.mk sJ sJ
   rintro⟨j,hj,hji⟩;dsimp only at hj hji ⊢;have htl:t.length+1≤20:=n1
   by_cases hlj:j<t.length
   ·have hqi:=iG hlj
    have w4:=wS j oM;have hm2:=mC 0 hlj;have hx:=n2 _ (List.mem_cons_of_mem _ hm2);have hq5:((rows (ccs f) n).drop (t.getD j 0*5)).take 5=coc (f (t.getD j 0)):=bE (bC f) hx;rw[iB (d:=0) hlj,List.forall_mem_cons] at hji;generalize t.getD j 0=x at*
    by_cases hs:(f x).s= -1
    ·exact absurd hT (fun h=>(hji.1 (he.1 h.2.1).1).1 hs)
    ·refine vS<|vLt jj<|vW jj<|vS<|vD jj hlj hqi<|vT jj<|vZ jj<|vS<|vX jj<|jm jj<|vD jj hx hq5<|jS (aI jj jj)<|vT jj<|vEf jj<|jn<|jf jj<|jp<|jr<|vAd jj w4<|jm jj<|jn ?_
     refine⟨⟨j+1,oM,hji.trans ⟨fun h=>h.2,fun h=>⟨hs,h⟩⟩⟩,?_,oD⟩;exact Sub.mk sJ sJ
   ·have hall:∀k∈t,(f k).s≠-1:=hji.2 (by rw[List.drop_of_length_le oM];simp)
    refine vS<|vLf jj<|vU jj<|jr<|vAd jj w1<|jm jj<|jn ?_;refine⟨⟨k+1,oM,he.trans ⟨fun h=>h.2,fun h=>⟨hall,h⟩⟩⟩,?_,oD⟩;exact Sub.mk sJ sJ
  ·have hok:fiP f (chn f n):=he.2 (by rw[List.drop_of_length_le oM];unfold fiP;simp)
   cases r with
   |true=>
    rw[decide_eq_true ⟨hfu,hok,rfl⟩];refine vS<|vLf jj<|vU jj<|vS<|vL jj<|vC C2 ⟨jj,trivial⟩<|jm jj<|vE jj<|vE jj<|vA jj<|vP jj<|vZ jj<|vS<|jm jj<|vZ jj<|ji ?_;exact rtT rfl jj
   |false=>exact Bool.noConfusion hT.2.2
 ·exact absurd hT.1 hfu
end
end
end Go.Proofs.YtfmjdlogjmofbaaGreatDoor
